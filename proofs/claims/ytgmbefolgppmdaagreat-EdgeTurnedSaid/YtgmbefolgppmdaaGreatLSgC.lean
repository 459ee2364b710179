/- Records as the document's; which of two stands first, by the document. -/
import Derived.Test.YtgmbefolgppmdaaGreatLSeW
import Derived.Test.YtgmbefolgppmdaaGreatLReg
import Derived.Test.YtgmbefolgppmdaaGreatLAli
import Derived.Test.YtgmbefolgppmdaaGreatLGdB
import Derived.Test.YtgmbefolgppmdaaGreatLRsC
namespace Go.Proofs.YtgmbefolgppmdaaGreat
open Go.RowKit Go.Shelf Go.Sort
set_option maxRecDepth 100000
section
def OfR7 (w:World) (cs:List Value) (r:Rc.PRec) (W:World):Prop:=∃vo ds,cs=vo::.int .u32 (r.ttl:Int)::ds/\Rd vo r.owner w/\OfD w ds r W
theorem OfR7.rec {w:World} {cs:List Value} {r:Rc.PRec} {W:World} (h:OfR7 w cs r W) (hb:Below w.heap.size w W):RecRd cs r W:=by
 obtain⟨vo,ds,h1,h2,h3⟩:=h;exact⟨vo,ds,h1,h2.below hb,h3.dat hb⟩
theorem OfR7.below {w:World} {cs:List Value} {r:Rc.PRec} {W W':World} (h:OfR7 w cs r W) (hb:Below W.heap.size W W'):OfR7 w cs r W':=by
 obtain⟨vo,ds,h1,h2,h3⟩:=h;exact⟨vo,ds,h1,h2,h3.below hb⟩
theorem OfR7.grown {w:World} {cs:List Value} {r:Rc.PRec} {W W':World} {row:Option Nat} (h:OfR7 w cs r W) (hg:W.grownBy W' row) (hr:∀g,row=some g->∃c t f,W.heap[g]? = some (.cells c t f)/\t≠37):OfR7 w cs r W':=by
 obtain⟨vo,ds,h1,h2,h3⟩:=h;exact⟨vo,ds,h1,h2,h3.grown hg hr⟩
set_option maxHeartbeats 2000000 in
theorem of5T_any (vs:List Value) (r:Rc.PRec) (w w0:World) (h:RecRd vs r w) (hb0:Below w.heap.size w w0) (hn:r.names.length<=1000) :
  Calls Tryz.prog 44 #[.agg vs.toArray] w0 fun e w'=>∃vs',e=.returned (.agg vs'.toArray)/\OfR7 w vs' r w'/\Below w0.heap.size w0 w':=by
 obtain⟨p0,n0,q0,p1,n1,q1,p2,n2,q2,p3,n3,q3,p4,n4,q4,rfl,hro,hrd⟩:=h.cells;obtain⟨W2,hW2⟩:∃W2,(w0.alloc (.cells #[.slice p0 n0 q0,.int .u32 (r.ttl:Int),.int .i64 r.type,.slice p1 n1 q1,.slice p2 n2 q2,.slice p3 n3 q3,.slice p4 n4 q4] 110)).alloc (.cells #[.slice none 0 0,.int .u32 0,.int .i64 0,.slice none 0 0,.slice none 0 0,.slice none 0 0,.slice none 0 0] 119)=W2:=⟨_,rfl⟩;have hb2:Below w0.heap.size w0 W2:=by subst hW2;exact (Zr).alloc (by simp) _
 have k0:Blk w0.heap.size #[.slice p0 n0 q0,.int .u32 (r.ttl:Int),.int .i64 r.type,.slice p1 n1 q1,.slice p2 n2 q2,.slice p3 n3 q3,.slice p4 n4 q4] 110 W2:=by subst hW2;exact (Blk.new w0 _ _).alloc _
 have k1:Blk (w0.heap.size+1) #[.slice none 0 0,.int .u32 0,.int .i64 0,.slice none 0 0,.slice none 0 0,.slice none 0 0,.slice none 0 0] 119 W2:=by
  subst hW2;have:=Blk.new (w0.alloc (.cells #[.slice p0 n0 q0,.int .u32 (r.ttl:Int),.int .i64 r.type,.slice p1 n1 q1,.slice p2 n2 q2,.slice p3 n3 q3,.slice p4 n4 q4] 110)) #[.slice none 0 0,.int .u32 0,.int .i64 0,.slice none 0 0,.slice none 0 0,.slice none 0 0,.slice none 0 0] 119
  rwa [World.size_alloc] at this
 have HB:=Hd hb2;have K1:=Hd k1;have HRO:=Hd hro;have HRD:=Hd hrd;obtain⟨vn',vm',vt',vr',he,⟨us,hul,hs1,hs2⟩,h2',h3',h4'⟩:=hrd;cases he;have HC:=Hd (fun w' (hw:Below w0.heap.size w0 w')=>of4_any (.slice p1 n1 q1) (.slice p2 n2 q2) (.slice p3 n3 q3) (.slice p4 n4 q4) us r.type w' (hs1.below (Z5 hb0 hw)) (fun u hu=>by
  obtain⟨i,hi,rfl⟩:=List.mem_iff_getElem.1 hu;obtain⟨o,c,h,_⟩:=(hs2 i hi (by omega)).form
  exact⟨_,_,_,h⟩) ⟨_,_,_,rfl⟩ ⟨_,_,_,rfl⟩ ⟨_,_,_,rfl⟩ (by omega))
 have HU:=Hd hs2;have HDR:=Hd (And.intro h2' (And.intro h3' h4'));have hSr:=Sv.of k0;have K0:=Hd k0;obtain⟨m1,hm1⟩:=Zq us.length;rw[hm1] at HC;have HUL:=Hd (And.intro hul hm1);clear hro h k0 k1 hb2 hs1 hs2 h2' h3' h4' hul hm1 HRD;have HB0W:=Hd hb0;clear hb0;refine (zF (n:=0)).1 ?_;refine callsIn_of_wp Tryz.func44 rfl trivial ?_ rfl;simp only[Tryz.ntmps44,Zo,Ze,Zg,Nat.reduceAdd,Nat.reduceSub,Zi,Zj,Zk,Zl,Zm,Zp];gi_wp2_with fail
 refine Z8 [0,1,2,3,4,5,6,7] (Sv w0.heap.size (.slice p0 n0 q0) (.int .u32 (r.ttl:Int)) (.int .i64 r.type) (.slice p1 n1 q1) (.slice p2 n2 q2) (.slice p3 n3 q3) (.slice p4 n4 q4)) 9 rfl (by kernel_rfl) ?_
 intro w3 hw3;have hS:Sv w0.heap.size (.slice p0 n0 q0) (.int .u32 (r.ttl:Int)) (.int .i64 r.type) (.slice p1 n1 q1) (.slice p2 n2 q2) (.slice p3 n3 q3) (.slice p4 n4 q4) w3:=by subst hw3;exact hSr
 have hb3:Below W2.heap.size W2 w3:=by subst hw3;exact (Below.refl _ _).drew
 clear hw3 hSr hW2;refine tA 0 hS ?_;refine tA 2 hS ?_;refine tA 4 hS ?_;refine tA 1 hS ?_;refine tA 3 hS ?_;refine tA 5 hS ?_;simp only[Act.put,Za,Zd,Zc];have hbs3:=hb3.size;have HC3:=Hd (HC.out _ (Z5 HB.out hb3));refine oneH 6 (by rfl) (by kernel_rfl) (fun K hK=>?_)
 gi_wp2_with (gi_at_call 73;refine (callsIn_wide.2 HC3.out).mono ?_;rintro e w4 ⟨r1,t1,rfl,hrow4,b4⟩)
 have hb4:=Z5 hb3 b4;have hS4:Sv w0.heap.size (.slice p0 n0 q0) (.int .u32 (r.ttl:Int)) (.int .i64 r.type) (.slice p1 n1 q1) (.slice p2 n2 q2) (.slice p3 n3 q3) (.slice p4 n4 q4) w4:=Sv.of (K0.out.below hb4);refine hK _ _ (fun _=>hS4) ?_
 clear hK K hS hb3 b4;have hS:=hS4;clear hS4;refine tA 7 hS ?_;simp only[Act.put,Za,Zd,Zc];have k1:=K1.out.below hb4;have a0:w4.cell? ⟨w0.heap.size+1,0,none⟩=some _:=k1.cell 0;have a1:w4.cell? ⟨w0.heap.size+1,1,none⟩=some _:=k1.cell 1;have a2:w4.cell? ⟨w0.heap.size+1,2,none⟩=some _:=k1.cell 2;have a3:w4.cell? ⟨w0.heap.size+1,3,none⟩=some _:=k1.cell 3;have a4:w4.cell? ⟨w0.heap.size+1,4,none⟩=some _:=k1.cell 4;have a5:w4.cell? ⟨w0.heap.size+1,5,none⟩=some _:=k1.cell 5;have a6:w4.cell? ⟨w0.heap.size+1,6,none⟩=some _:=k1.cell 6;have f0:=k1.frozen 0;have f1:=k1.frozen 1;have f2:=k1.frozen 2;have f3:=k1.frozen 3;have f4:=k1.frozen 4;have f5:=k1.frozen 5;have f6:=k1.frozen 6;obtain⟨We,hWe⟩:∃We,((((((w4.setCell ⟨w0.heap.size+1,0,none⟩ (.slice p0 n0 q0)).setCell ⟨w0.heap.size+1,1,none⟩ (.int .u32 (r.ttl:Int))).setCell ⟨w0.heap.size+1,2,none⟩ (.int .i64 r.type)).setCell ⟨w0.heap.size+1,3,none⟩ (.slice r1 m1 t1)).setCell ⟨w0.heap.size+1,4,none⟩ (.slice p2 n2 q2)).setCell ⟨w0.heap.size+1,5,none⟩ (.slice p3 n3 q3)).setCell ⟨w0.heap.size+1,6,none⟩ (.slice p4 n4 q4)=We:=⟨_,rfl⟩;have ke:Blk (w0.heap.size+1) #[.slice p0 n0 q0,.int .u32 (r.ttl:Int),.int .i64 r.type,.slice r1 m1 t1,.slice p2 n2 q2,.slice p3 n3 q3,.slice p4 n4 q4] 119 We:=by
  subst hWe;exact ((((((k1.setAt 0 _).setAt 1 _).setAt 2 _).setAt 3 _).setAt 4 _).setAt 5 _).setAt 6 _
 have hbe:Below w0.heap.size w0 We:=by
  subst hWe;exact (((((((Z5 HB.out hb4).setCell (p:=⟨w0.heap.size+1,0,none⟩) (by simp) _).setCell (p:=⟨w0.heap.size+1,1,none⟩) (by simp) _).setCell (p:=⟨w0.heap.size+1,2,none⟩) (by simp) _).setCell (p:=⟨w0.heap.size+1,3,none⟩) (by simp) _).setCell (p:=⟨w0.heap.size+1,4,none⟩) (by simp) _).setCell (p:=⟨w0.heap.size+1,5,none⟩) (by simp) _).setCell (p:=⟨w0.heap.size+1,6,none⟩) (by simp) _
 have hrowe:Row (fun g=>w3.heap.size+3<=g) 37 1 (.slice r1 m1 t1) m1 us We:=by
  have hlt:w0.heap.size+1<w3.heap.size:=by
   have h1:=K1.out.lt;have h2:=hbs3;omega
  subst hWe;exact ((((((hrow4.setOther (fun h=>by omega) _).setOther (fun h=>by omega) _).setOther (fun h=>by omega) _).setOther (fun h=>by omega) _).setOther (fun h=>by omega) _).setOther (fun h=>by omega) _).setOther (fun h=>by omega) _
 have KE:=Hd ke;have HBE:=Hd hbe;have HRE:=Hd hrowe;clear ke hbe hrowe hrow4 k1;refine oneH 8 (by rfl) (by kernel_rfl) (fun K hK=>?_)
 gi_wp2_with fail
 refine hK _ _ (fun h=>absurd h (by decide)) ?_
 clear hK K hS;refine Z9 (by kernel_rfl) ?_
 have e0:We.cell? ⟨w0.heap.size+1,0,none⟩=some _:=KE.out.cell 0;have e1:We.cell? ⟨w0.heap.size+1,1,none⟩=some _:=KE.out.cell 1;have e2:We.cell? ⟨w0.heap.size+1,2,none⟩=some _:=KE.out.cell 2;have e3:We.cell? ⟨w0.heap.size+1,3,none⟩=some _:=KE.out.cell 3;have e4:We.cell? ⟨w0.heap.size+1,4,none⟩=some _:=KE.out.cell 4;have e5:We.cell? ⟨w0.heap.size+1,5,none⟩=some _:=KE.out.cell 5;have e6:We.cell? ⟨w0.heap.size+1,6,none⟩=some _:=KE.out.cell 6;gi_wp2_with fail
 refine bodyPost_ret (v:=.agg #[.slice p0 n0 q0,.int .u32 (r.ttl:Int),.int .i64 r.type,.slice r1 m1 t1,.slice p2 n2 q2,.slice p3 n3 q3,.slice p4 n4 q4]) (by simp at e0 e1 e2 e3 e4 e5 e6;simp[results,Tryz.results44,go_sem,e0,e1,e2,e3,e4,e5,e6]) rfl ?_
 have hbE:=HBE.out;obtain⟨hul,hm1⟩:=HUL.out;obtain⟨h2,h3,h4⟩:=HDR.out;have hrow:=HRE.out;have hw3:=HB0W.out.size;have hsz:w0.heap.size<=w3.heap.size:=by have:=HB.out.size;omega
 rw[<-hm1] at hrow ⊢;exact⟨[.slice p0 n0 q0,.int .u32 (r.ttl:Int),.int .i64 r.type,.slice r1 us.length t1,.slice p2 n2 q2,.slice p3 n3 q3,.slice p4 n4 q4],rfl,⟨_,_,rfl,HRO.out,us,r1,t1,_,_,_,rfl,hrow.mono (fun g hg=>by omega),hul,HU.out,h2,h3,h4⟩,hbE⟩
theorem info_rrec:(Tryz.prog.info? 119).map (fun i=>(i.zero,i.size,i.bytes))=some (some (.agg #[.slice none 0 0,.int .u32 0,.int .i64 0,.slice none 0 0,.slice none 0 0,.slice none 0 0,.slice none 0 0]),7,136):=by kernel_rfl
theorem recsRd_of {v:Value} {l:List RP} {W:World} (h:GRd 7 v (l.map (·.1)) W) (hr:∀x∈l,RecRd x.1 x.2 W):RecsRd v l W:=by
 obtain⟨o,cap,h1,h2,h3,h4,h5,h6⟩:=h;rw[Zf] at h1 h2;refine⟨hr,o,cap,h1,h2,h3,h4,fun j hj=>?_⟩
 have h7:∀x∈l,x.1.length=7:=fun x hx=>(hr x hx).len
 have hj':=hj;rw[encP_len h7] at hj';have q1:j / 7<l.length:=by omega
 obtain⟨a,ha,e⟩:=h6 (j / 7) (by simpa using q1) (j % 7) (Nat.mod_lt _ (by omega))
 have h8:=encP_get h7 (j / 7) (j % 7) q1 (Nat.mod_lt _ (by omega))
 rw[show j / 7*7+j % 7=j by omega] at e h8
 rw[List.getElem_map,<-h8,zN hj] at e;exact⟨a,ha,e⟩
def OfAllR {w:World} (l:List (El w)) (w0:World) (e:Ending) (w':World):Prop:=∃(v':Value) (l':List (El w')),e=.returned v'/\RecsRd v' (l'.map (·.1)) w'/\plE l'=plE l/\Below w0.heap.size w0 w'
set_option maxHeartbeats 4000000 in
theorem ofAll_any {w w0:World} (v:Value) (l:List (El w)) (hb0:Below w.heap.size w w0) (hv:RecsRd v (l.map (·.1)) w0) (na:l.length<=1000) :
  Calls Tryz.prog 19 #[v] w0 (OfAllR l w0):=by
 obtain⟨ov,cv,rfl⟩:∃o cap,v=.slice o l.length cap:=by obtain⟨_,o,cap,h,_⟩:=hv;exact⟨o,cap,by rw[h,Zf]⟩
 have HV:=Hd hv.el;have HB0:=Hd hb0;have lz:(l.length:Int)<=1000:=by omega
 clear hv hb0;refine (zF (n:=0)).1 ?_;refine callsIn_of_wp Tryz.func19 rfl trivial ?_ rfl;simp only[Tryz.ntmps19,Zo,Ze,Zg,Nat.reduceAdd,Nat.reduceSub,Zi,Zj,Zk,Zl,Zm,Zp];gi_wp2_with fail
 gi_loopw [3,4] (fun vx vi W=>∃(i:Nat) (ys:List RP),i<=l.length/\vi=.int .i64 i/\Hid (ys.length=i/\plD ys=plE (l.take i)/\∀y∈ys,OfR7 w y.1 y.2 W)/\Below w0.heap.size w0 W/\Row (fun g=>w0.heap.size<=g) 119 7 vx ys.length (ys.map (·.1)).flatten W) (fun _ vi _=>l.length-(intOf vi).toNat)
 case atStart=>exact⟨0,[],Nat.zero_le _,rfl,⟨rfl,rfl,by simp⟩,Below.refl _ _,Row.nil _ _ _ _⟩
 case round =>
  obtain⟨i,ys,hi,rfl,HI,hb,hrow⟩:=hrel;by_cases hlt:i<l.length
  ·have hlz:(i:Int)<(l.length:Int):=by omega
   obtain⟨x,hx⟩:=Zq (l[i]);obtain⟨p0,n0,q0,p1,n1,q1,p2,n2,q2,p3,n3,q3,p4,n4,q4,ex⟩:=x.cells;obtain⟨ga,rfl,e0,e1,e2,e3,e4,e5,e6⟩:=HV.out _ hb i hlt _ _ _ _ _ _ _ (by rw[hx];exact ex)
   obtain⟨ea,hea⟩:=Zq (ga.add (i*7));rw[hea] at e0 e1 e2 e3 e4 e5 e6;have htk:l.take (i+1)=l.take i++[x]:=by rw[Zx hlt,hx]
   have hxr:RecRd [.slice p0 n0 q0,.int .u32 (x.1.2.ttl:Int),.int .i64 x.1.2.type,.slice p1 n1 q1,.slice p2 n2 q2,.slice p3 n3 q3,.slice p4 n4 q4] x.1.2 w:=by have h:=x.2.1;rw[show x.1.1=_ from ex] at h;exact h
   have HOF:=Hd (of5T_any _ x.1.2 w wr hxr (Z5 HB0.out hb) x.2.2.names.1);have HTK:=Hd htk;have HB:=Hd hb;have HR:=Hd hrow;clear hx ex htk hxr hb hrow;gi_wp2_with fail
   (with_reducible refine (callsIn_wide.2 HOF.out).mono ?_)
   rintro e w4 ⟨cs,rfl,hof,b4⟩;have hbw:=Z5 HB0.out (Z5 HB.out b4);obtain⟨d0,k0,t0,d1,k1,t1,d2,k2,t2,d3,k3,t3,d4,k4,t4,e7,_⟩:=(hof.rec hbw).cells;subst e7;have HB4:=Hd (Z5 HB.out b4);have HR4:=Hd (HR.out.below b4);have HI4:Hid (∀y∈ys,OfR7 w y.1 y.2 w4):=fun y hy=>(HI.out.2.2 y hy).below b4
   have HOD:=Hd hof;have HG4:=Hd (GRd.new [.slice d0 k0 t0,.int .u32 (x.1.2.ttl:Int),.int .i64 x.1.2.type,.slice d1 k1 t1,.slice d2 k2 t2,.slice d3 k3 t3,.slice d4 k4 t4] rfl (by simp[Value.oneCell']) w4 119)
   have HR5:=Hd (HR4.out.alloc (.cells #[.slice d0 k0 t0,.int .u32 (x.1.2.ttl:Int),.int .i64 x.1.2.type,.slice d1 k1 t1,.slice d2 k2 t2,.slice d3 k3 t3,.slice d4 k4 t4] 119));have HBA:Hid (Below w4.heap.size w4 (w4.alloc (.cells #[.slice d0 k0 t0,.int .u32 (x.1.2.ttl:Int),.int .i64 x.1.2.type,.slice d1 k1 t1,.slice d2 k2 t2,.slice d3 k3 t3,.slice d4 k4 t4] 119))):=Zr;have HRZ:Hid (w0.heap.size<=w4.heap.size+1):=by have:=HB4.out.size;show _<=_;omega
   have HYN:Hid (ys.length+1<=100000):=by have:=HI.out.1;show _<=_;omega
   clear e0 e1 e2 e3 e4 e5 e6 hof b4 HOF hea hbw;gi_wp2_with (gi_at_builtin;refine Z7 (fun g=>w0.heap.size<=g) 119 _ 7 136 info_rrec rfl (by decide) rfl _ _ _ Tryz.underlying63 rfl _ ys.length (ys.map (·.1)) (by rfl) HR5.out _ [[.slice d0 k0 t0,.int .u32 (x.1.2.ttl:Int),.int .i64 x.1.2.type,.slice d1 k1 t1,.slice d2 k2 t2,.slice d3 k3 t3,.slice d4 k4 t4]] (by rfl) HG4.out HYN.out (by omega) (by rw[World.size_alloc];exact HRZ.out) ?_;intro v10 w10 hrow10 hgr10;have HR10:=Hd hrow10;have HGR10:=Hd hgr10;clear hrow10 hgr10)
   gi_wp2_with fail
   have hgt:∀g,Value.ownBlock u3=some g->∃c t f,(w4.alloc (.cells #[.slice d0 k0 t0,.int .u32 (x.1.2.ttl:Int),.int .i64 x.1.2.type,.slice d1 k1 t1,.slice d2 k2 t2,.slice d3 k3 t3,.slice d4 k4 t4] 119)).heap[g]? = some (.cells c t f)/\t≠37:=fun g hg=>by
    obtain⟨c,f,h⟩:=HR5.out.typ hg;exact⟨c,_,f,h,by decide⟩
   refine⟨⟨i+1,ys++[([.slice d0 k0 t0,.int .u32 (x.1.2.ttl:Int),.int .i64 x.1.2.type,.slice d1 k1 t1,.slice d2 k2 t2,.slice d3 k3 t3,.slice d4 k4 t4],x.1.2)],hlt,by go_num,⟨by simp[HI.out.1],?_,fun y hy=>?_⟩,?_,?_⟩,by simp[intOf];omega⟩
   ·rw[HTK.out,plE_snoc,<-HI.out.2.1]
    simp[plD]
   ·rw[List.mem_append,List.mem_singleton] at hy
    rcases hy with hy|rfl
    ·exact ((HI4.out y hy).below HBA.out).grown HGR10.out hgt
    ·exact (HOD.out.below HBA.out).grown HGR10.out hgt
   ·exact (Z5 HB4.out HBA.out).grown HGR10.out (Z5 HB4.out HBA.out).size (fun g hg=>HR5.out.2 g hg)
   ·have:=HR10.out
    rw[Zb,List.map_append];exact this
  ·have hlz:¬((i:Int)<(l.length:Int)):=by omega
   obtain rfl:i=l.length:=by omega
   have HB:=Hd hb;have HR:=Hd hrow;clear hb hrow;gi_wp2_with fail
   go_ret
   have hbw:=Z5 HB0.out HB.out;obtain⟨h1,h2,h3⟩:=HI.out;rw[List.take_length] at h2;have hr7:∀x∈ys,RecRd x.1 x.2 wr:=fun x hx=>(h3 x hx).rec hbw
   have hrb:∀x∈ys,RB x.2:=fun x hx=>by
    have:x.2∈plE l:=by rw[<-h2];exact List.mem_map.2 ⟨x,hx,rfl⟩
    obtain⟨z,_,e⟩:=List.mem_map.1 this;rw[<-e];exact z.2.2
   obtain⟨L,hL⟩:=els (W:=wr) (l:=ys) (fun x hx=>⟨hr7 x hx,hrb x hx⟩)
   refine⟨_,L,rfl,?_,?_,HB.out⟩
   ·rw[hL]
    refine recsRd_of (Row.grd (by rw[Zf];exact HR.out) (fun c hc=>?_)) hr7
    obtain⟨x,hx,rfl⟩:=List.mem_map.1 hc;exact⟨(hr7 x hx).len,(hr7 x hx).one⟩
   ·rw[<-h2]
    have:plE L=plD (L.map (·.1)):=by simp[plE,plD]
    rw[this,hL]
theorem Rc.cmp_two (a b:Rc.PRec):Rc.cmp a b=Rc.orI (Nm.cmp a.owner b.owner) (Rc.cmpD a b):=by
 have h:Rc.cmpD a b=Rc.orI (Nm.sgn a.type b.type) (Rc.cmpD a b):=by
  unfold Rc.cmpD Rc.orI;by_cases h:Nm.sgn a.type b.type=0<;>simp[h]
 unfold Rc.cmp;rw[<-h]
set_option maxHeartbeats 2000000 in
theorem refCompareRec_any (va vb:List Value) (a b:Rc.PRec) (w:World) (ha:RecRd va a w) (hb:RecRd vb b w) (na:RB a) (nb:RB b) :
  Calls Tryz.prog 74 #[.agg va.toArray,.agg vb.toArray] w (Gives (.int .i64 (Rc.cmp a b)) w):=by
 obtain⟨p0,n0,q0,p1,n1,q1,p2,n2,q2,p3,n3,q3,p4,n4,q4,rfl,ho,hd⟩:=ha.cells;obtain⟨r0,k0,t0,r1,k1,t1,r2,k2,t2,r3,k3,t3,r4,k4,t4,rfl,ho',hd'⟩:=hb.cells;obtain⟨z,hz⟩:=Zq (Nm.cmp a.owner b.owner);have hct:=Rc.cmp_two a b;rw[hz] at hct;have HCT:=Hd hct;have HZ:=Hd hz;have HO:=Hd ho;have HO':=Hd ho';have HD:=Hd hd;have HD':=Hd hd';obtain⟨W2,hW2⟩:∃W,(w.alloc (.cells #[.slice p0 n0 q0,.int .u32 (a.ttl:Int),.int .i64 a.type,.slice p1 n1 q1,.slice p2 n2 q2,.slice p3 n3 q3,.slice p4 n4 q4] 119)).alloc (.cells #[.slice r0 k0 t0,.int .u32 (b.ttl:Int),.int .i64 b.type,.slice r1 k1 t1,.slice r2 k2 t2,.slice r3 k3 t3,.slice r4 k4 t4] 119)=W:=⟨_,rfl⟩;have hb2:Below w.heap.size w W2:=by rw[<-hW2];exact (Zr).alloc (by simp) _
 have kk2:Blk w.heap.size #[.slice p0 n0 q0,.int .u32 (a.ttl:Int),.int .i64 a.type,.slice p1 n1 q1,.slice p2 n2 q2,.slice p3 n3 q3,.slice p4 n4 q4] 119 W2:=by rw[<-hW2];exact (Blk.new w _ _).alloc _
 have kk3:Blk (w.heap.size+1) #[.slice r0 k0 t0,.int .u32 (b.ttl:Int),.int .i64 b.type,.slice r1 k1 t1,.slice r2 k2 t2,.slice r3 k3 t3,.slice r4 k4 t4] 119 W2:=by
  rw[<-hW2];have:=Blk.new (w.alloc (.cells #[.slice p0 n0 q0,.int .u32 (a.ttl:Int),.int .i64 a.type,.slice p1 n1 q1,.slice p2 n2 q2,.slice p3 n3 q3,.slice p4 n4 q4] 119)) #[.slice r0 k0 t0,.int .u32 (b.ttl:Int),.int .i64 b.type,.slice r1 k1 t1,.slice r2 k2 t2,.slice r3 k3 t3,.slice r4 k4 t4] 119
  rwa [World.size_alloc] at this
 have HB2:=Hd hb2;have K2:=Hd kk2;have K3:=Hd kk3;have HW2:=Hd hW2;have HC1:=Hd (zD _ _ a.owner b.owner W2 (ho.below hb2) (ho'.below hb2) na.owner nb.owner);rw[hz] at HC1;have HC2:=Hd (fun W' (hW:Below W2.heap.size W2 W')=>refCompareData_any _ _ a b W' (hd.below (Z5 hb2 hW)) (hd'.below (Z5 hb2 hW)) na nb)
 clear ha hb ho ho' hd hd' hz hct hW2 hb2 kk2 kk3;refine (zF (n:=0)).1 ?_;refine callsIn_of_wp Tryz.func74 rfl trivial ?_ rfl;simp only[Tryz.ntmps74,Zo,Ze,Zg,Nat.reduceAdd,Nat.reduceSub,Zi,Zj,Zk,Zl,Zm,Zp];gi_wp2_with fail
 rw[HW2.out]
 (with_reducible refine (callsIn_wide.2 HC1.out).mono ?_)
 rintro e w3 ⟨rfl,b3⟩;have HB3:=Hd b3;have e2:w3.cell? ⟨w.heap.size,2,none⟩=some _:=(K2.out.below b3).cell 2;have e3:w3.cell? ⟨w.heap.size,3,none⟩=some _:=(K2.out.below b3).cell 3;have e4:w3.cell? ⟨w.heap.size,4,none⟩=some _:=(K2.out.below b3).cell 4;have e5:w3.cell? ⟨w.heap.size,5,none⟩=some _:=(K2.out.below b3).cell 5;have e6:w3.cell? ⟨w.heap.size,6,none⟩=some _:=(K2.out.below b3).cell 6;have f2:w3.cell? ⟨w.heap.size+1,2,none⟩=some _:=(K3.out.below b3).cell 2;have f3:w3.cell? ⟨w.heap.size+1,3,none⟩=some _:=(K3.out.below b3).cell 3;have f4:w3.cell? ⟨w.heap.size+1,4,none⟩=some _:=(K3.out.below b3).cell 4;have f5:w3.cell? ⟨w.heap.size+1,5,none⟩=some _:=(K3.out.below b3).cell 5;have f6:w3.cell? ⟨w.heap.size+1,6,none⟩=some _:=(K3.out.below b3).cell 6;clear b3;by_cases h0:z=0
 ·subst h0
  gi_wp2_with fail
  (with_reducible refine (callsIn_wide.2 (HC2.out w3 HB3.out)).mono ?_)
  rintro e w4 ⟨rfl,b4⟩;have HB4:=Hd (Z5 HB2.out (Z5 HB3.out b4));clear b4;gi_wp2_with fail
  go_ret
  exact⟨by rw[HCT.out,Rc.orI_right];rfl,HB4.out⟩
 ·have h1:(z != 0)=true:=by simp[h0]
  gi_wp2_with fail
  go_ret
  exact⟨by rw[HCT.out,Rc.orI_left h0];rfl,Z5 HB2.out HB3.out⟩
set_option maxHeartbeats 1000000 in
theorem refSameRec_any (va vb:List Value) (a b:Rc.PRec) (w:World) (ha:RecRd va a w) (hb:RecRd vb b w) (na:RB a) (nb:RB b) :
  Calls Tryz.prog 75 #[.agg va.toArray,.agg vb.toArray] w (Gives (.bool (Rc.cmp a b == 0)) w):=by
 have HA:=Hd ha;have HB:=Hd hb;obtain⟨p0,n0,q0,p1,n1,q1,p2,n2,q2,p3,n3,q3,p4,n4,q4,rfl,_⟩:=ha.cells;obtain⟨r0,k0,t0,r1,k1,t1,r2,k2,t2,r3,k3,t3,r4,k4,t4,rfl,_⟩:=hb.cells;have NA:=Hd na;have NB':=Hd nb;clear na nb ha hb;have hz:∀z:Int,(decide (z=0))=(z == 0):=fun z=>by by_cases h:z=0<;>simp[h]
 go_enter Tryz.func75,Tryz.ntmps75
 go_wp2_with fail
 refine (refCompareRec_any [.slice p0 n0 q0,.int .u32 (a.ttl:Int),.int .i64 a.type,.slice p1 n1 q1,.slice p2 n2 q2,.slice p3 n3 q3,.slice p4 n4 q4] [.slice r0 k0 t0,.int .u32 (b.ttl:Int),.int .i64 b.type,.slice r1 k1 t1,.slice r2 k2 t2,.slice r3 k3 t3,.slice r4 k4 t4] a b _ (HA.out.below ((Zr).alloc (by simp) _)) (HB.out.below ((Zr).alloc (by simp) _)) NA.out NB'.out).mono ?_
 rintro e w1 ⟨rfl,b1⟩;have hb1:=(((Below.refl w.heap.size w).alloc (Zh _) _).alloc (by simp) _).trans (b1.mono (by simp;omega))
 go_wp2_with fail
 go_ret
 exact⟨by first|rfl|simp[hz],hb1⟩
end
section
theorem RecsRd.shape {v:Value} {l:List RP} {w:World} (h:RecsRd v l w):∃o cap,v=.slice o l.length cap/\l.length<=cap/\cap<=9223372036854775807:=by
 obtain⟨_,o,cap,h,h1,h2,_⟩:=h;unfold maxLen at h2;exact⟨o,cap,h,h1,by omega⟩
theorem RecsRd.set' {w:World} {o:Option Addr} {n cap:Nat} {l:List (El w)} {W:World} (h:RecsRd (.slice o n cap) (l.map (·.1)) W) {b i:Nat} (ha:∀a,o=some a->a.block≠b) (u:Value) (hb:Below w.heap.size w (W.setCell ⟨b,i,none⟩ u)) :
  RecsRd (.slice o n cap) (l.map (·.1)) (W.setCell ⟨b,i,none⟩ u):=by
 obtain⟨_,o2,c2,e1,e2,e3,e4,e5⟩:=h;cases e1;refine⟨fun x hx=>?_,o,cap,rfl,e2,e3,e4,fun j hj=>?_⟩
 ·obtain⟨y,_,rfl⟩:=List.mem_map.1 hx
  exact y.2.1.below hb
 ·obtain⟨a,hao,hcell⟩:=e5 j hj
  refine⟨a,hao,?_⟩;rw[World.cell?_of_block (Below.heap_setCell _ _ _ _ (by rw[add_block];exact ha a hao))]
  exact hcell
section
variable {F:Fence} {n:Nat} {P:Program} {ops:Array Oper} {Q:Exit->Act->World->Prop}
theorem opH2 (i:Nat) {oi:Oper} {fuel:Nat} {listed:Array Bool} {a:Act} {w:World} {N:List Nat} {S:World->Prop} (hi:ops.toList[i]? = some oi)
  (h:∀K:Act->World->Prop,(∀a' w',(i∈N->S w')->wpAnyH F n P ops (NoPan Q) N S fuel (listed.setIfInBounds i true) a' w'->K a' w') ->
   wpListIn F n P ops (Exit.then K (NoPan Q)) [oi] a w) :
  wpOpIn F n P ops (NoPan Q) i (fun a' w'=>(i∈N->S w')/\wpAnyH F n P ops (NoPan Q) N S fuel (listed.setIfInBounds i true) a' w') a w:=by
 replace hi:ops[i]? = some oi:=by rw[<-Array.getElem?_toList];exact hi
 have:=h _ (fun a' w' h1 h2=>(⟨h1,h2⟩:(i∈N->S w')/\wpAnyH F n P ops (NoPan Q) N S fuel (listed.setIfInBounds i true) a' w'))
 unfold wpOpIn;simp only[wpListIn] at this;simp only[hi];by_cases hw:Region.wanted oi (yielded ops a.tmps)=true
 ·rw[if_pos hw] at this ⊢
  refine⟨this.1,?_⟩;have h2:=this.2;generalize (oi.semAt F.round a.eval).run P w=r at *
  cases r with
  | ok x w' =>
   cases x<;>simp only[Oper.uponIn] at h2 ⊢
   case value u=>exact h2
   case skip=>exact h2
   case defer d=>exact h2
   case enter f args =>
    refine⟨h2.1,CallsIn.mono h2.2 fun e w'' he=>?_⟩
    cases e with
    | returned u=>exact he
    | panicked c=>exact he
    | outgrown=>exact letsOut_then he
   case row row args=>exact⟨h2.1,RowsIn.mono h2.2 fun u w'' he=>he⟩
   case round l f tmps assign body =>
    refine⟨h2.1,RoundIn.mono h2.2 fun e w'' he=>?_⟩
    cases e with
    | returned u=>exact he
    | panicked c=>exact he
    | outgrown=>exact letsOut_then he
  | halt x w'=>cases x<;>simp only[Oper.uponIn] at h2 ⊢<;>exact h2
 ·rw[if_neg hw] at this ⊢
  exact this
theorem twoH2 (i j:Nat) {oi oj:Oper} {fuel:Nat} {listed:Array Bool} {a:Act} {w:World} {N:List Nat} {S:World->Prop} (hi:ops.toList[i]? = some oi) (hj:ops.toList[j]? = some oj)
  (hr:Region.ready .any ops listed=[i,j])
  (h1:∀K:Act->World->Prop,(∀a' w',(i∈N->S w')->wpAnyH F n P ops (NoPan Q) N S fuel (listed.setIfInBounds i true) a' w'->K a' w')->wpListIn F n P ops (Exit.then K (NoPan Q)) [oi] a w)
  (h2:∀K:Act->World->Prop,(∀a' w',(j∈N->S w')->wpAnyH F n P ops (NoPan Q) N S fuel (listed.setIfInBounds j true) a' w'->K a' w')->wpListIn F n P ops (Exit.then K (NoPan Q)) [oj] a w) :
  wpAnyH F n P ops (NoPan Q) N S (fuel+1) listed a w:=by
 refine⟨fun h0=>(by rw[hr] at h0;cases h0),fun k hk=>?_⟩
 rw[hr] at hk;simp only[List.mem_cons,List.not_mem_nil,or_false] at hk;rcases hk with rfl|rfl
 ·exact opH2 k hi h1
 ·exact opH2 k hj h2
end
end
end Go.Proofs.YtgmbefolgppmdaaGreat
