/- A Net as the document's: the walk of toponymlaw16.Of. -/
import Derived.Test.YtgmbefolgppmdaaGreatKEhE
import Derived.Test.YtgmbefolgppmdaaGreatKReg
import Derived.Test.YtgmbefolgppmdaaGreatKAli
namespace Go.Proofs.YtgmbefolgppmdaaGreat
open Go.RowKit Go.Shelf Go.Sort
set_option maxRecDepth 100000
attribute [local go_sem] Oper.semAt_some
theorem info_rhost:(Tryz.prog.info? 95).map (fun i=>(i.zero,i.size,i.bytes))=some (some (.agg #[.slice none 0 0,.int .u8 0,.int .u8 0,.int .u8 0,.int .u8 0,.slice none 0 0]),6,56):=by kernel_rfl
theorem info_rzone:(Tryz.prog.info? 66).map (fun i=>(i.zero,i.size,i.bytes))=some (some (.agg #[.slice none 0 0,.slice none 0 0]),2,48):=by kernel_rfl
section
variable {w:World}
def NfR (hs:List (HE w)) (ro:Option Addr) (rl rc:Nat) (r1 r2:Int) (w0:World) (e:Ending) (w':World):Prop :=
 ∃(vx:Value) (css:List (List Value)),e=.returned (.agg #[vx,.slice ro rl rc,.int .i64 r1,.int .i64 r2])/\BdG HfC 95 6 (w0.heap.size+3) hs css vx w'/\Below w0.heap.size w0 w'
set_option maxHeartbeats 8000000 in
theorem of16_any {w0:World} (hb0:Below w.heap.size w w0) (hs:List (HE w)) (vh:Value) (ro:Option Addr) (rl rc:Nat) (r1 r2:Int) (hv:GRd 6 vh (hs.map encHo) w) (hn:hs.length<=6) :
  Calls Tryz.prog 10 #[.agg #[vh,.slice ro rl rc,.int .i64 r1,.int .i64 r2]] w0 (NfR hs ro rl rc r1 r2 w0):=by
 obtain⟨os,cs,rfl,_,_⟩:=hv.form;rw[Zf] at hv ⊢;have hs1:Stable (fun t=>t=66\/t=95) (ZfC (w:=w)):=ZfC.stable (by decide) (by decide)
 have hs2:Stable (fun t=>t=95\/t=35) (HfC (w:=w)):=HfC.stable (by decide) (by decide) (by decide)
 have HS1:=Hd hs1;have HS2:=Hd hs2;clear hs1 hs2;obtain⟨sl,hsl⟩:=Zq hs.length;rw[hsl] at hv ⊢;obtain⟨W2,hW2⟩:=Zq ((w0.alloc (.cells #[.slice os sl cs,.slice ro rl rc,.int .i64 r1,.int .i64 r2] 25)).alloc (.cells #[.slice none 0 0,.slice none 0 0,.int .i64 0,.int .i64 0] 35));obtain⟨W3,hW3⟩:=Zq (W2.alloc (.cells #[.slice none 0 0,.slice none 0 0,.int .i64 0,.int .i64 0] 35));have s2:W2.heap.size=w0.heap.size+2:=by rw[<-hW2];simp
 have s3:W3.heap.size=w0.heap.size+3:=by rw[<-hW3];simp;omega
 have hb2:Below w0.heap.size w0 W2:=by rw[<-hW2];exact (Zr).alloc (by simp) _
 have hb3:Below w0.heap.size w0 W3:=by rw[<-hW3];exact hb2.alloc (by omega) _
 have k0':Blk w0.heap.size #[.slice os sl cs,.slice ro rl rc,.int .i64 r1,.int .i64 r2] 25 W2:=by rw[<-hW2];exact (Blk.new w0 _ _).alloc _
 have k0:Blk w0.heap.size #[.slice os sl cs,.slice ro rl rc,.int .i64 r1,.int .i64 r2] 25 W3:=by rw[<-hW3];exact k0'.alloc _
 have k1:Blk (w0.heap.size+1) #[.slice none 0 0,.slice none 0 0,.int .i64 0,.int .i64 0] 35 W3:=by
  rw[<-hW3,<-hW2];have:=(Blk.new (w0.alloc (.cells #[.slice os sl cs,.slice ro rl rc,.int .i64 r1,.int .i64 r2] 25)) #[.slice none 0 0,.slice none 0 0,.int .i64 0,.int .i64 0] 35).alloc (.cells #[.slice none 0 0,.slice none 0 0,.int .i64 0,.int .i64 0] 35)
  rwa [World.size_alloc] at this
 have k2:Blk (w0.heap.size+2) #[.slice none 0 0,.slice none 0 0,.int .i64 0,.int .i64 0] 35 W3:=by
  have:=Blk.new W2 #[.slice none 0 0,.slice none 0 0,.int .i64 0,.int .i64 0] 35
  rwa [hW3,s2] at this
 have d1:W2.cell? ⟨w0.heap.size,1,none⟩=some _:=k0'.cell 1;have d2:W2.cell? ⟨w0.heap.size,2,none⟩=some _:=k0'.cell 2;have d3:W2.cell? ⟨w0.heap.size,3,none⟩=some _:=k0'.cell 3;have a0:W3.cell? ⟨w0.heap.size+2,0,none⟩=some _:=k2.cell 0;have a1:W3.cell? ⟨w0.heap.size+2,1,none⟩=some _:=k2.cell 1;have a2:W3.cell? ⟨w0.heap.size+2,2,none⟩=some _:=k2.cell 2;have a3:W3.cell? ⟨w0.heap.size+2,3,none⟩=some _:=k2.cell 3;have z0:=k2.frozen 0;have z1:=k2.frozen 1;have z2:=k2.frozen 2;have z3:=k2.frozen 3;obtain⟨W4,hW4⟩:=Zq ((((W3.setCell ⟨w0.heap.size+2,0,none⟩ (.slice none 0 0)).setCell ⟨w0.heap.size+2,1,none⟩ (.slice ro rl rc)).setCell ⟨w0.heap.size+2,2,none⟩ (.int .i64 r1)).setCell ⟨w0.heap.size+2,3,none⟩ (.int .i64 r2));have K0:Hid (Blk w0.heap.size #[.slice os sl cs,.slice ro rl rc,.int .i64 r1,.int .i64 r2] 25 W4):=by
  show Blk _ _ _ _;rw[<-hW4];exact (((k0.set (by omega) _).set (by omega) _).set (by omega) _).set (by omega) _
 have K1:Hid (Blk (w0.heap.size+1) #[.slice none 0 0,.slice none 0 0,.int .i64 0,.int .i64 0] 35 W4):=by
  show Blk _ _ _ _;rw[<-hW4];exact (((k1.set (by omega) _).set (by omega) _).set (by omega) _).set (by omega) _
 have K2:Hid (Blk (w0.heap.size+2) #[.slice none 0 0,.slice ro rl rc,.int .i64 r1,.int .i64 r2] 35 W4):=by
  show Blk _ _ _ _;rw[<-hW4];exact (((k2.setAt 0 _).setAt 1 _).setAt 2 _).setAt 3 _
 have HB4:Hid (Below w0.heap.size w0 W4):=by
  show Below _ _ _;rw[<-hW4];exact (((hb3.setCell (p:=⟨w0.heap.size+2,0,none⟩) (by simp) _).setCell (p:=⟨w0.heap.size+2,1,none⟩) (by simp) _).setCell (p:=⟨w0.heap.size+2,2,none⟩) (by simp) _).setCell (p:=⟨w0.heap.size+2,3,none⟩) (by simp) _
 have HS4:Hid (w0.heap.size+3<=W4.heap.size):=by have:=K2.out.lt;show _<=_;omega
 have HC:=Hd hv;have HSL:=Hd hsl;have HB0:=Hd hb0;have g1:(sl:Int)<=6:=by omega
 clear hb2 hb3 k0 k1 k2 k0' hv hsl hb0;refine (zF (n:=0)).1 ?_;refine callsIn_of_wp Tryz.func10 rfl trivial ?_ rfl;simp only[Tryz.ntmps10,Zo,Ze,Zg,Nat.reduceAdd,Nat.reduceSub,Zi,Zj,Zk,Zl,Zm,Zp];gi_wp2
 clear d1 d2 d3 a0 a1 a2 a3 z0 z1 z2 z3 hW2 hW3 hW4 s2 s3
 gi_loopw [4] (fun vi W=>∃(i:Nat) (css:List (List Value)) (ox:Option Addr) (cx:Nat),i<=sl/\vi=.int .i64 i/\Hid (Blk w0.heap.size #[.slice os sl cs,.slice ro rl rc,.int .i64 r1,.int .i64 r2] 25 W)/\Hid (Blk (w0.heap.size+1) #[.slice none 0 0,.slice none 0 0,.int .i64 0,.int .i64 0] 35 W)/\Hid (Blk (w0.heap.size+2) #[.slice ox i cx,.slice ro rl rc,.int .i64 r1,.int .i64 r2] 35 W)/\Hid (BdG HfC 95 6 (w0.heap.size+3) (hs.take i) css (.slice ox i cx) W)/\Hid (Below w0.heap.size w0 W)/\Hid (w0.heap.size+3<=W.heap.size)) (fun vi _=>sl-(intOf vi).toNat)
 case atStart=>exact⟨0,[],none,0,Nat.zero_le _,rfl,K0,K1,K2,BdG.nil,HB4,HS4⟩
 case round =>
  clear K0 K1 K2 HB4 HS4;obtain⟨i,css,ox,cx,hi,rfl,K0,K1,K2,HM,HB,HS⟩:=hrel;obtain⟨wr,rfl⟩:∃q,q=wr:=⟨_,rfl⟩;have y0:wr.cell? ⟨w0.heap.size,0,none⟩=some _:=K0.out.cell 0;by_cases hlt:i<sl
  case neg =>
   have hlz:¬((i:Int)<(sl:Int)):=by omega
   have x0:wr.cell? ⟨w0.heap.size+2,0,none⟩=some _:=K2.out.cell 0;have x1:wr.cell? ⟨w0.heap.size+2,1,none⟩=some _:=K2.out.cell 1;have x2:wr.cell? ⟨w0.heap.size+2,2,none⟩=some _:=K2.out.cell 2;have x3:wr.cell? ⟨w0.heap.size+2,3,none⟩=some _:=K2.out.cell 3;have u0:wr.cell? ⟨w0.heap.size+1,0,none⟩=some _:=K1.out.cell 0;have u1:wr.cell? ⟨w0.heap.size+1,1,none⟩=some _:=K1.out.cell 1;have u2:wr.cell? ⟨w0.heap.size+1,2,none⟩=some _:=K1.out.cell 2;have u3:wr.cell? ⟨w0.heap.size+1,3,none⟩=some _:=K1.out.cell 3;have z0:=K1.out.frozen 0;have z1:=K1.out.frozen 1;have z2:=K1.out.frozen 2;have z3:=K1.out.frozen 3;obtain⟨W5,hW5⟩:=Zq ((((wr.setCell ⟨w0.heap.size+1,0,none⟩ (.slice ox i cx)).setCell ⟨w0.heap.size+1,1,none⟩ (.slice ro rl rc)).setCell ⟨w0.heap.size+1,2,none⟩ (.int .i64 r1)).setCell ⟨w0.heap.size+1,3,none⟩ (.int .i64 r2));have ka:=K1.out.setAt 0 (.slice ox i cx);have kb:=ka.setAt 1 (.slice ro rl rc);have kc:=kb.setAt 2 (.int .i64 r1);have kd:=kc.setAt 3 (.int .i64 r2);have hm:=(((HM.out.setB HS2.out (o:=0) (u:=.slice ox i cx) K1.out (by omega) (.inr rfl)).setB HS2.out (o:=1) (u:=.slice ro rl rc) ka (by omega) (.inr rfl)).setB HS2.out (o:=2) (u:=.int .i64 r1) kb (by omega) (.inr rfl)).setB HS2.out (o:=3) (u:=.int .i64 r2) kc (by omega) (.inr rfl)
   have hb5:=(((HB.out.setCell (p:=⟨w0.heap.size+1,0,none⟩) (by simp) (.slice ox i cx)).setCell (p:=⟨w0.heap.size+1,1,none⟩) (by simp) (.slice ro rl rc)).setCell (p:=⟨w0.heap.size+1,2,none⟩) (by simp) (.int .i64 r1)).setCell (p:=⟨w0.heap.size+1,3,none⟩) (by simp) (.int .i64 r2)
   rw[hW5] at kd hm hb5;have KD:=Hd kd;have HM5:=Hd hm;have HB5:=Hd hb5;clear ka kb kc kd hm hb5;gi_wp2
   have e0:W5.cell? ⟨w0.heap.size+1,0,none⟩=some (.slice ox i cx):=KD.out.cell 0;have e1:W5.cell? ⟨w0.heap.size+1,1,none⟩=some (.slice ro rl rc):=KD.out.cell 1;have e2:W5.cell? ⟨w0.heap.size+1,2,none⟩=some (.int .i64 r1):=KD.out.cell 2;have e3:W5.cell? ⟨w0.heap.size+1,3,none⟩=some (.int .i64 r2):=KD.out.cell 3;refine bodyPost_ret (v:=.agg #[.slice ox i cx,.slice ro rl rc,.int .i64 r1,.int .i64 r2]) (by simp[results,Tryz.results10,go_sem,e0,e1,e2,e3]) rfl ?_
   have h:=HM5.out;rw[List.take_of_length_le (by have:=HSL.out;omega)] at h
   exact⟨_,css,rfl,h,HB5.out⟩
  case pos =>
  have hlz:(i:Int)<(sl:Int):=by omega
  have his:i<hs.length:=by rw[HSL.out];exact hlt
  obtain⟨a,rfl,_⟩:=HC.out.at (by decide) i (by rw[Zf];exact his)
  obtain⟨s,hs'⟩:∃s,hs[i]=s:=⟨_,rfl⟩;have hpl:s.zones.length<=4:=s.len;have HTK:Hid (hs.take (i+1)=hs.take i++[s]):=by show _=_;rw[Zx his,hs']
  obtain⟨pl,hpl'⟩:∃n,s.zones.length=n:=⟨_,rfl⟩;obtain⟨oz,cz,hvz,_,_⟩:=s.hz.form;have hz:=s.hz;rw[Zf,hpl'] at hvz;rw[hvz] at hz;rw[hpl'] at hpl;obtain⟨on,cn,hvn,hf1,hf2⟩:=s.hn.form;obtain⟨nl,hnl⟩:=Zq s.name.length;rw[hnl] at hvn;obtain⟨b0,hb0⟩:=Zq s.a0;obtain⟨b1,hb1⟩:=Zq s.a1;obtain⟨b2,hb2⟩:=Zq s.a2;obtain⟨b3,hb3⟩:=Zq s.a3;obtain⟨ea,hea⟩:=Zq (a.add (i*6));have hcell:∀W',Below w0.heap.size w0 W'->W'.cell? ea=some (.slice on nl cn)/\W'.cell? ⟨ea.block,ea.off+1,none⟩=some (.int .u8 b0)/\W'.cell? ⟨ea.block,ea.off+2,none⟩=some (.int .u8 b1)/\W'.cell? ⟨ea.block,ea.off+3,none⟩=some (.int .u8 b2)/\W'.cell? ⟨ea.block,ea.off+4,none⟩=some (.int .u8 b3)/\W'.cell? ⟨ea.block,ea.off+5,none⟩=some (.slice oz pl cz):=fun W' hW=>by
   obtain⟨a',ha',p0,p1⟩:=(HC.out.below (Z5 HB0.out hW)).at (by decide) i (by rw[Zf];exact his)
   cases ha';rw[List.getElem_map,hs',hea] at p0 p1;refine⟨p0.trans (by rw[<-hvn];rfl),(p1 1 (by decide) (by decide)).trans (by rw[<-hb0];rfl),(p1 2 (by decide) (by decide)).trans (by rw[<-hb1];rfl),(p1 3 (by decide) (by decide)).trans (by rw[<-hb2];rfl),(p1 4 (by decide) (by decide)).trans (by rw[<-hb3];rfl),(p1 5 (by decide) (by decide)).trans (by rw[<-hvz];rfl)⟩
  have HCE:=Hd hcell;have HZ:=Hd hz;have HPL:=Hd hpl';have HVN:Hid ([s.vn,.int .u8 s.a0,.int .u8 s.a1,.int .u8 s.a2,.int .u8 s.a3]=[.slice on nl cn,.int .u8 b0,.int .u8 b1,.int .u8 b2,.int .u8 b3]):=by show _=_;rw[hvn,hb0,hb1,hb2,hb3]
  have HSS:Hid (∀W',Below w0.heap.size w0 W'->W'.cell? ⟨w0.heap.size,0,none⟩=some (.slice (some a) sl cs)->Cs [(⟨w0.heap.size,0,none⟩,.slice (some a) sl cs),(ea,.slice on nl cn),(⟨ea.block,ea.off+1,none⟩,.int .u8 b0),(⟨ea.block,ea.off+2,none⟩,.int .u8 b1),(⟨ea.block,ea.off+3,none⟩,.int .u8 b2),(⟨ea.block,ea.off+4,none⟩,.int .u8 b3)] W'):=fun W' hW h0=>by
   obtain⟨e0,e1,e2,e3,e4,e5⟩:=hcell W' hW;exact⟨h0,e0,e1,e2,e3,e4,trivial⟩
  have g2:(pl:Int)<=4:=by omega
  clear hs' hz hcell hvn hvz hf1 hf2 hnl hb0 hb1 hb2 hb3 hpl';gi_wp2_with fail
  refine Z8 [1,4,5,7,9,10,11,12,13] (Cs [(⟨w0.heap.size,0,none⟩,.slice (some a) sl cs),(ea,.slice on nl cn),(⟨ea.block,ea.off+1,none⟩,.int .u8 b0),(⟨ea.block,ea.off+2,none⟩,.int .u8 b1),(⟨ea.block,ea.off+3,none⟩,.int .u8 b2),(⟨ea.block,ea.off+4,none⟩,.int .u8 b3)]) 15 rfl (by kernel_rfl) ?_
  intro wa hwa;have HBA:Hid (Below wr.heap.size wr wa):=by subst hwa;exact (Below.refl _ _).drew
  have hS:=HSS.out wa (HB.out.trans (HBA.out.mono (by have:=HS.out;omega))) (K0.out.below HBA.out |>.cell 0)
  clear hwa y0;refine tP 0 ?rav0 (fun w1 _=>?ray0) ?_
  case ray0=>go_simp;try rfl
  refine tP 2 ?rav2 (fun w1 _=>?ray2) ?_
  case ray2=>go_simp;try rfl
  refine tP 6 ?rav6 (fun w1 _=>?ray6) ?_
  case ray6=>go_simp;try rfl
  refine tP 8 ?rav8 (fun w1 _=>?ray8) ?_
  case ray8=>go_simp;try rfl
  refine tH 1 ?rbv1 hS (fun w1 ⟨s0,s1,s2,s3,s4,s5,_⟩=>?rby1) ?_
  case rby1=>go_simp;try rfl
  refine tP 3 ?rcv3 (fun w1 _=>?rcy3) ?_
  case rcy3=>go_simp;try rfl
  refine tH 4 ?rdv4 hS (fun w1 ⟨s0,s1,s2,s3,s4,s5,_⟩=>?rdy4) ?_
  case rdy4=>go_simp;try rfl
  refine tH 7 ?rdv7 hS (fun w1 ⟨s0,s1,s2,s3,s4,s5,_⟩=>?rdy7) ?_
  case rdy7=>go_simp;try rfl
  refine tH 9 ?rdv9 hS (fun w1 ⟨s0,s1,s2,s3,s4,s5,_⟩=>?rdy9) ?_
  case rdy9=>go_simp;try rfl
  refine tH 10 ?rdv10 hS (fun w1 ⟨s0,s1,s2,s3,s4,s5,_⟩=>?rdy10) ?_
  case rdy10=>go_simp;try rfl
  refine tH 5 ?rdv5 hS (fun w1 ⟨s0,s1,s2,s3,s4,s5,_⟩=>?rdy5) ?_
  case rdy5=>go_simp;try rfl
  refine tH 11 ?rdv11 hS (fun w1 ⟨s0,s1,s2,s3,s4,s5,_⟩=>?rdy11) ?_
  case rdy11=>go_simp;try rfl
  simp only[Act.put,Za,Zd,Zc];refine tH 12 ?rev12 hS (fun w1 ⟨s0,s1,s2,s3,s4,s5,_⟩=>?rey12) ?_
  case rey12=>go_simp;try rfl
  refine oneH 13 (by rfl) (by kernel_rfl) (fun K hK=>?_)
  gi_wp2_with fail
  obtain⟨Wb,hWb⟩:=Zq (wa.alloc (.cells #[.slice none 0 0,.int .u8 0,.int .u8 0,.int .u8 0,.int .u8 0,.slice none 0 0] 95));obtain⟨bs,hbs⟩:=Zq wa.heap.size;have kb:Blk bs #[.slice none 0 0,.int .u8 0,.int .u8 0,.int .u8 0,.int .u8 0,.slice none 0 0] 95 Wb:=by rw[<-hbs,<-hWb];exact Blk.new wa _ _
  have hbb:Below wa.heap.size wa Wb:=by rw[<-hWb];exact Zr
  have hszb:bs+1=Wb.heap.size:=by rw[<-hWb,<-hbs];simp
  have hbw:w0.heap.size+3<=bs:=by rw[<-hbs];exact Nat.le_trans HS.out HBA.out.size
  rw[hWb,hbs];have HBB:=Hd (Z5 HBA.out hbb);refine hK _ _ (fun _=>HSS.out Wb (HB.out.trans (HBB.out.mono (by have:=HS.out;omega))) (K0.out.below HBB.out |>.cell 0)) ?_
  clear hK K hS;have u0:Wb.cell? ⟨bs,0,none⟩=some _:=kb.cell 0;have u1:Wb.cell? ⟨bs,1,none⟩=some _:=kb.cell 1;have u2:Wb.cell? ⟨bs,2,none⟩=some _:=kb.cell 2;have u3:Wb.cell? ⟨bs,3,none⟩=some _:=kb.cell 3;have u4:Wb.cell? ⟨bs,4,none⟩=some _:=kb.cell 4;have u5:Wb.cell? ⟨bs,5,none⟩=some _:=kb.cell 5;have z0:=kb.frozen 0;have z1:=kb.frozen 1;have z2:=kb.frozen 2;have z3:=kb.frozen 3;have z4:=kb.frozen 4;have z5:=kb.frozen 5;obtain⟨Wd,hWd⟩:=Zq ((((((Wb.setCell ⟨bs,0,none⟩ (.slice on nl cn)).setCell ⟨bs,1,none⟩ (.int .u8 b0)).setCell ⟨bs,2,none⟩ (.int .u8 b1)).setCell ⟨bs,3,none⟩ (.int .u8 b2)).setCell ⟨bs,4,none⟩ (.int .u8 b3)).setCell ⟨bs,5,none⟩ (.slice none 0 0));have kd:=(((((kb.setAt 0 (.slice on nl cn)).setAt 1 (.int .u8 b0)).setAt 2 (.int .u8 b1)).setAt 3 (.int .u8 b2)).setAt 4 (.int .u8 b3)).setAt 5 (.slice none 0 0);have hbd:Below bs wa Wd:=by
   rw[<-hWd];have h:=hbb;rw[hbs] at h;exact (((((h.setCell (p:=⟨bs,0,none⟩) (by simp) _).setCell (p:=⟨bs,1,none⟩) (by simp) _).setCell (p:=⟨bs,2,none⟩) (by simp) _).setCell (p:=⟨bs,3,none⟩) (by simp) _).setCell (p:=⟨bs,4,none⟩) (by simp) _).setCell (p:=⟨bs,5,none⟩) (by simp) _
  have hsd:bs+1<=Wd.heap.size:=by rw[<-hWd];simp[World.setCell];omega
  rw[hWd] at kd;have KD:=Hd kd;have HBD:=Hd hbd;have HSD:=Hd hsd;refine oneH 14 (by rfl) (by kernel_rfl) (fun K hK=>?_)
  gi_wp2
  refine hK _ _ (fun h=>absurd h (by decide)) ?_
  clear hK K;refine Z9 (by kernel_rfl) ?_
  clear u0 u1 u2 u3 u4 u5 z0 z1 z2 z3 z4 z5 kb kd hbd hsd hWb hWd hbb hszb;have HBS:=Hd hbs;clear hbs;gi_wp2_with fail
  gi_loopw [6] (fun vj W=>∃(j:Nat) (czs:List (List Value)) (oy:Option Addr) (cy:Nat),j<=pl/\vj=.int .i64 j/\Hid (Blk bs #[.slice on nl cn,.int .u8 b0,.int .u8 b1,.int .u8 b2,.int .u8 b3,.slice oy j cy] 95 W)/\Hid (BdG ZfC 66 2 (bs+1) (s.zones.take j) czs (.slice oy j cy) W)/\Hid (Below bs wa W)/\Hid (bs+1<=W.heap.size)) (fun vj _=>pl-(intOf vj).toNat)
  case atStart=>exact⟨0,[],none,0,Nat.zero_le _,rfl,KD,BdG.nil,HBD,HSD⟩
  case round =>
   clear KD HBD HSD HBB;obtain⟨j,czs,oy,cy,hj,rfl,KJ,HRJ,HBJ,HSJ⟩:=hrel;obtain⟨wj,rfl⟩:∃q,q=wr:=⟨_,rfl⟩;have HJW:Hid (∀W',Below bs wa W'->Below w0.heap.size w0 W'/\W'.cell? ⟨w0.heap.size,0,none⟩=some (.slice (some a) sl cs)):=fun W' hW =>
    have h1:Below wr.heap.size wr W':=HBA.out.trans (hW.mono (by rw[<-HBS.out];exact HBA.out.size))
    ⟨HB.out.trans (h1.mono (by have:=HS.out;omega)),(K0.out.below h1).cell 0⟩
   obtain⟨hjb,y0⟩:=HJW.out wj HBJ.out;obtain⟨_,_,_,_,_,y5⟩:=HCE.out wj hjb;by_cases hlj:j<pl
   case neg =>
    have hljz:¬((j:Int)<(pl:Int)):=by omega
    obtain rfl:j=pl:=by omega
    have hbj:Below wr.heap.size wr wj:=HBA.out.trans (HBJ.out.mono (by rw[<-HBS.out];exact HBA.out.size))
    have HSV:Hid (HfC s [.slice on nl cn,.int .u8 b0,.int .u8 b1,.int .u8 b2,.int .u8 b3,.slice oy j cy] wj):=by
     have h:=hf_done (h:=s) (vz:=.slice oy j cy) (czs:=czs) (B:=bs+1) (W:=wj) (by
      have h:=HRJ.out;rw[List.take_of_length_le (by have:=HPL.out;omega)] at h
      exact h)
     have e:=HVN.out;simp only[List.cons.injEq] at e;obtain⟨e0,e1,e2,e3,e4,_⟩:=e;rw[e0,e1,e2,e3,e4] at h;exact h
    have HMJ:=Hd (HM.out.below HS2.out hbj);have hil:css.length=i:=by rw[HM.out.len,List.length_take];have:=HSL.out;omega
    have HIL:=Hd hil;have HNB:Hid (Below wj.heap.size wj (wj.alloc (.cells #[.slice on nl cn,.int .u8 b0,.int .u8 b1,.int .u8 b2,.int .u8 b3,.slice oy j cy] 95))):=Zr;have HX0:=Hd (K0.out.below hbj);have HX1:=Hd (K1.out.below hbj);have HX2:=Hd (K2.out.below hbj);have HBW:=Hd (HB.out.trans (hbj.mono (by have:=HS.out;omega)))
    have HSW:Hid (w0.heap.size+3<=wj.heap.size):=Nat.le_trans HS.out hbj.size;have hrow:Row (fun g=>w0.heap.size+3<=g) 95 6 (.slice ox i cx) i css.flatten wj:=by have h:=HMJ.out.row;rwa [hil] at h
    have HROW:=Hd hrow;have x0:wj.cell? ⟨w0.heap.size+2,0,none⟩=some (.slice ox i cx):=HX2.out.cell 0;have xf:=HX2.out.frozen 0;have t0:wj.cell? ⟨bs,0,none⟩=some _:=KJ.out.cell 0;have t1:wj.cell? ⟨bs,1,none⟩=some _:=KJ.out.cell 1;have t2:wj.cell? ⟨bs,2,none⟩=some _:=KJ.out.cell 2;have t3:wj.cell? ⟨bs,3,none⟩=some _:=KJ.out.cell 3;have t4:wj.cell? ⟨bs,4,none⟩=some _:=KJ.out.cell 4;have t5:wj.cell? ⟨bs,5,none⟩=some _:=KJ.out.cell 5;clear hrow hbj hil;gi_wp2_with (gi_at_builtin;refine Z7 (fun g=>w0.heap.size+3<=g) 95 _ 6 56 info_rhost rfl (by decide) rfl _ _ _ Tryz.underlying33 rfl _ i css (by rfl) (HROW.out.below HNB.out) _ [[.slice on nl cn,.int .u8 b0,.int .u8 b1,.int .u8 b2,.int .u8 b3,.slice oy j cy]] (by rfl) (GRd.new [.slice on nl cn,.int .u8 b0,.int .u8 b1,.int .u8 b2,.int .u8 b3,.slice oy j cy] rfl (by simp[Value.oneCell']) wj 95) (by simp;omega) (by omega) (by have:=HSW.out;simp;omega) ?_;intro v10 w10 hrow10 hgr10;obtain⟨o10,c10,e10⟩:=hrow10.form;subst e10;have y2:Blk (w0.heap.size+2) #[.slice ox i cx,.slice ro rl rc,.int .i64 r1,.int .i64 r2] 35 w10:=(hgr10.block _ (by have:=HSW.out;simp;omega) (fun e=>by have:=HROW.out.2 _ e.symm;omega)).trans (HX2.out.below HNB.out);have y0:=y2.cell 0;have y1:=y2.frozen 0;have HR10:=Hd hrow10;have HG10:=Hd hgr10;have HY2:=Hd y2;clear hrow10 hgr10 y2)
    have hm:=BdG.push HS2.out (v10:=.slice o10 (i+1) c10) (.inl rfl) (HMJ.out.below HS2.out HNB.out) (HS2.out _ _ _ _ HSV.out (keepT.below HNB.out)) (by rw[HIL.out];exact HR10.out) HG10.out
    rw[<-HTK.out] at hm;have hk1:Blk (w0.heap.size+1) #[.slice none 0 0,.slice none 0 0,.int .i64 0,.int .i64 0] 35 w10:=(HG10.out.block _ (by have:=HSW.out;simp;omega) (fun e=>by have:=HROW.out.2 _ e.symm;omega)).trans (HX1.out.below HNB.out)
    have hk0:Blk w0.heap.size #[.slice (some a) sl cs,.slice ro rl rc,.int .i64 r1,.int .i64 r2] 25 w10:=(HG10.out.block _ (by have:=HSW.out;simp;omega) (fun e=>by have:=HROW.out.2 _ e.symm;omega)).trans (HX0.out.below HNB.out)
    have hb10:Below w0.heap.size w0 w10:=(HBW.out.trans (HNB.out.mono (by have:=HSW.out;omega))).grown HG10.out (by have:=HSW.out;simp;omega) (fun g hg=>by have:=HROW.out.2 g hg;omega)
    have hs10:w0.heap.size+3<=w10.heap.size:=by have h1:=HSW.out;have h2:=HG10.out.size;simp at h2;omega
    refine⟨⟨i+1,_,o10,c10,hlt,by go_num,hk0.set (by omega) _,hk1.set (by omega) _,HY2.out.setAt 0 _,hm.setB HS2.out (o:=0) (u:=.slice o10 (i+1) c10) HY2.out (by omega) (.inr rfl),hb10.setCell (p:=⟨w0.heap.size+2,0,none⟩) (by simp) _,by show _<=_;simpa[World.setCell] using hs10⟩,by simp[intOf];omega⟩
   case pos =>
   have hljz:(j:Int)<(pl:Int):=by omega
   have hjp:j<s.zones.length:=by rw[HPL.out];exact hlj
   obtain⟨b,rfl,_⟩:=HZ.out.at (by decide) j (by rw[Zf];exact hjp)
   obtain⟨z,hz⟩:=Zq (s.zones[j]);have HPT:Hid (s.zones.take (j+1)=s.zones.take j++[z]):=by show _=_;rw[Zx hjp,hz]
   obtain⟨op,cp,hzo,hf1,hf2⟩:=z.ho.form;obtain⟨oq,cq,hzr⟩:∃o cap,z.vr=.slice o z.recs.length cap:=by obtain⟨_,o,cap,h,_⟩:=z.hr;exact⟨o,cap,by rw[h,Zf]⟩
   have hze:encZ z=[.slice op z.origin.length cp,.slice oq z.recs.length cq]:=by unfold encZ;rw[hzo,hzr]
   obtain⟨np,hnp⟩:=Zq z.origin.length;obtain⟨nq,hnq⟩:=Zq z.recs.length;rw[hnp,hnq] at hze;have HZO:Hid (z.vo=.slice op np cp):=by show _=_;rw[hzo,hnp]
   have HOZ:Hid (∀W',Below w0.heap.size w0 W'->Calls Tryz.prog 32 #[.agg #[.slice op np cp,.slice oq nq cq]] W' (Of12R z W')):=fun W' hW=>by
    have h:=of12_any (Z5 HB0.out hW) z
    rwa [hze] at h
   obtain⟨eb,heb⟩:=Zq (b.add (j*2));have hpc:∀W',Below w0.heap.size w0 W'->W'.cell? eb=some (.slice op np cp)/\W'.cell? ⟨eb.block,eb.off+1,none⟩=some (.slice oq nq cq):=fun W' hW=>by
    obtain⟨a',ha',p0,p1⟩:=(HZ.out.below (Z5 HB0.out hW)).at (by decide) j (by rw[Zf];exact hjp)
    cases ha';rw[List.getElem_map,hz,hze,heb] at p0 p1;exact⟨p0,p1 1 (by decide) (by decide)⟩
   have HPC:=Hd hpc;have HSJS:Hid (∀W',Below bs wa W'->W'.cell? ⟨bs,5,none⟩=some (.slice oy j cy)->Cs [(⟨bs,5,none⟩,.slice oy j cy),(⟨w0.heap.size,0,none⟩,.slice (some a) sl cs),(⟨ea.block,ea.off+5,none⟩,.slice (some b) pl cz),(eb,.slice op np cp),(⟨eb.block,eb.off+1,none⟩,.slice oq nq cq)] W'):=fun W' hW h5=>by
    obtain⟨h1,h2⟩:=HJW.out W' hW;obtain⟨_,_,_,_,_,e5⟩:=HCE.out W' h1;obtain⟨d0,d1⟩:=HPC.out W' h1;exact⟨h5,h2,e5,d0,d1,trivial⟩
   clear hz hpc hzo hzr hze hf1 hf2 hnp hnq y0 y5 hjb;obtain⟨y1,y2,y3,y4,y5,_⟩:=HSJS.out wj HBJ.out (KJ.out.cell 5);gi_wp2_with fail
   refine Z8 [1,3,6,7,9,10,11,12,13] (Cs [(⟨bs,5,none⟩,.slice oy j cy),(⟨w0.heap.size,0,none⟩,.slice (some a) sl cs),(⟨ea.block,ea.off+5,none⟩,.slice (some b) pl cz),(eb,.slice op np cp),(⟨eb.block,eb.off+1,none⟩,.slice oq nq cq)]) 16 rfl (by kernel_rfl) ?_
   intro wc hwc;have HBC:Hid (Below wj.heap.size wj wc):=by subst hwc;exact (Below.refl _ _).drew
   have HWC:Hid (Below bs wa wc):=by show Below _ _ _;subst hwc;exact HBJ.out.drew
   have hS:=HSJS.out wc HWC.out ((KJ.out.below HBC.out).cell 5);clear hwc y1 y2 y3 y4 y5;refine tP 0 ?sav0 (fun w1 _=>?say0) ?_
   case say0=>go_simp;try rfl
   refine tP 2 ?sav2 (fun w1 _=>?say2) ?_
   case say2=>go_simp;try rfl
   refine tP 4 ?sav4 (fun w1 _=>?say4) ?_
   case say4=>go_simp;try rfl
   refine tP 8 ?sav8 (fun w1 _=>?say8) ?_
   case say8=>go_simp;try rfl
   refine tH 3 ?sbv3 hS (fun w1 ⟨s0,s1,s2,s3,s4,_⟩=>?sby3) ?_
   case sby3=>go_simp;try rfl
   refine tP 5 ?scv5 (fun w1 _=>?scy5) ?_
   case scy5=>go_simp;try rfl
   refine tH 6 ?sdv6 hS (fun w1 ⟨s0,s1,s2,s3,s4,_⟩=>?sdy6) ?_
   case sdy6=>go_simp;try rfl
   refine tH 7 ?sdv7 hS (fun w1 ⟨s0,s1,s2,s3,s4,_⟩=>?sdy7) ?_
   case sdy7=>go_simp;try rfl
   refine tH 9 ?sdv9 hS (fun w1 ⟨s0,s1,s2,s3,s4,_⟩=>?sdy9) ?_
   case sdy9=>go_simp;try rfl
   refine tH 1 ?sdv1 hS (fun w1 ⟨s0,s1,s2,s3,s4,_⟩=>?sdy1) ?_
   case sdy1=>go_simp;try rfl
   refine tH 10 ?sdv10 hS (fun w1 ⟨s0,s1,s2,s3,s4,_⟩=>?sdy10) ?_
   case sdy10=>go_simp;try rfl
   simp only[Act.put,Za,Zd,Zc];refine oneH 11 (by rfl) (by kernel_rfl) (fun K hK=>?_)
   gi_wp2_with fail
   refine (callsIn_wide.2 (HOZ.out wc (HJW.out wc HWC.out).1)).mono ?_;rintro e9 wd ⟨zcs,rfl,hzf,b9⟩;have HBD:=Hd (Z5 HBC.out b9);have HWD:Hid (Below bs wa wd):=HWC.out.trans (b9.mono (by have h1:=HSJ.out;have h2:=HBC.out.size;omega))
   have HZF:=Hd hzf;obtain⟨v9,ys9,e9,g9,_⟩:=id hzf;obtain⟨o9,c9,f9,_,_⟩:=g9.form;obtain⟨n9,hn9⟩:=Zq ((ys9.map (·.1)).length);rw[hn9] at f9;subst f9;rw[HZO.out] at e9;subst e9;clear g9 hn9 hzf b9;gi_wp2_with fail
   refine hK _ _ (fun _=>HSJS.out wd HWD.out ((KJ.out.below HBD.out).cell 5)) ?_
   clear hK K hS;refine oneH 12 (by rfl) (by kernel_rfl) (fun K hK=>?_)
   gi_wp2_with fail
   obtain⟨W9,hW9⟩:=Zq (wd.alloc (.cells #[.slice op np cp,.slice o9 n9 c9] 66));have hb9:Below wd.heap.size wd W9:=by rw[<-hW9];exact Zr
   have HG9:Hid (GRd 2 (.slice (some ⟨wd.heap.size,0,none⟩) 1 1) [[.slice op np cp,.slice o9 n9 c9]] W9):=by
    show GRd _ _ _ _;rw[<-hW9];exact GRd.new [.slice op np cp,.slice o9 n9 c9] rfl (by simp[Value.oneCell']) wd 66
   have HB9:=Hd (Z5 HBD.out hb9);have HZ9:Hid (ZfC z [.slice op np cp,.slice o9 n9 c9] W9):=HS1.out _ _ _ _ HZF.out (keepT.below hb9);have HS9:Hid (bs+1<=W9.heap.size):=by have h1:=HSJ.out;have h2:=HB9.out.size;show _<=_;omega
   have HW9:Hid (Below bs wa W9):=HWD.out.trans (hb9.mono (by have h1:=HSJ.out;have h2:=HBD.out.size;omega))
   have hczl:czs.length=j:=by rw[HRJ.out.len,List.length_take];omega
   have hrow9:Row (fun g=>bs+1<=g) 66 2 (.slice oy j cy) j czs.flatten W9:=by have h:=(HRJ.out.row.below HB9.out);rwa [hczl] at h
   have HROW9:=Hd hrow9;have CZL:=Hd hczl;rw[hW9];refine hK _ _ (fun _=>HSJS.out W9 HW9.out ((KJ.out.below HB9.out).cell 5)) ?_
   clear hK K hW9 hb9 hczl hrow9;refine oneH 13 (by rfl) (by kernel_rfl) (fun K hK=>?_)
   gi_wp2_with (gi_at_builtin;refine Z7 (fun g=>bs+1<=g) 66 _ 2 48 info_rzone rfl (by decide) rfl _ _ _ Tryz.underlying93 rfl _ j czs (by rfl) HROW9.out _ [[.slice op np cp,.slice o9 n9 c9]] (by rfl) HG9.out (by simp;omega) (by omega) (by have:=HS9.out;omega) ?_;intro v10 w10 hrow10 hgr10;obtain⟨o10,c10,e10⟩:=hrow10.form;subst e10;have HR10:=Hd hrow10;have HG10:=Hd hgr10;clear hrow10 hgr10)
   have k10:Blk bs #[.slice on nl cn,.int .u8 b0,.int .u8 b1,.int .u8 b2,.int .u8 b3,.slice oy j cy] 95 w10:=(HG10.out.block bs (by have:=HS9.out;omega) (fun e=>by have:=HROW9.out.2 _ e.symm;omega)).trans (KJ.out.below HB9.out)
   have HB10:Hid (Below bs wa w10):=HW9.out.grown HG10.out (by have:=HS9.out;omega) (fun g hg=>by have:=HROW9.out.2 g hg;omega)
   have hs10:bs+1<=w10.heap.size:=by have h1:=HS9.out;have h2:=HG10.out.size;omega
   have hm:=BdG.push HS1.out (v10:=.slice o10 (j+1) c10) (.inl rfl) (HRJ.out.below HS1.out HB9.out) HZ9.out (by rw[CZL.out];exact HR10.out) HG10.out
   rw[<-HPT.out] at hm;have HM10:=Hd hm;refine hK _ _ (fun _=>HSJS.out w10 HB10.out (k10.cell 5)) ?_
   clear hK K hm;have hS:=HSJS.out w10 HB10.out (k10.cell 5);refine tP 14 ?sgv14 (fun w1 _=>?sgy14) ?_
   case sgy14=>go_simp;try rfl
   have z5:=k10.frozen 5;have u5:w10.cell? ⟨bs,5,none⟩=some _:=k10.cell 5;have K10:=Hd k10;have HS10:=Hd hs10;refine oneH 15 (by rfl) (by kernel_rfl) (fun K hK=>?_)
   gi_wp2_with fail
   refine hK _ _ (fun h=>absurd h (by decide)) ?_
   clear hK K hS;refine Z9 (by kernel_rfl) ?_
   clear u5 z5 k10 hs10;gi_wp2_with fail
   exact⟨⟨j+1,_,o10,c10,hlj,by go_num,K10.out.setAt 5 _,HM10.out.setB HS1.out (o:=5) (u:=.slice o10 (j+1) c10) K10.out (by omega) (.inr rfl),HB10.out.setCell (p:=⟨bs,5,none⟩) (by simp) _,by show _<=_;simpa[World.setCell] using HS10.out⟩,by simp[intOf];omega⟩
end
end Go.Proofs.YtgmbefolgppmdaaGreat
