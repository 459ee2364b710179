/- Data and records as the document's. -/
import Derived.Test.YtgmbefolgppmdaaGreatLRsC
import Derived.Test.YtgmbefolgppmdaaGreatLReg
import Derived.Test.YtgmbefolgppmdaaGreatLAli
import Derived.Lib.SlicesCompact
import Derived.Lib.RowBridge
namespace Go.Proofs.YtgmbefolgppmdaaGreat
set_option maxRecDepth 100000
section
open Go.RowKit Go.Shelf Go.Sort
theorem Row.sl {R e v xs W} (h:Row R e 1 v xs.length xs W):Sl v xs W:=by
 obtain⟨⟨hl,ho⟩,_⟩:=h;rcases ho with⟨rfl,h0⟩|⟨g,cap,cur,rfl,_,hg,h1,h2,h3,h4⟩
 ·have:xs=[]:=List.length_eq_zero_iff.1 h0
  subst this;exact Sl.nil W
 ·refine⟨some ⟨g,0,none⟩,cap,rfl,h1,h2,(fun h=>by cases h),fun j hj=>⟨_,rfl,?_⟩⟩
  have hadd:(⟨g,0,none⟩:Addr).add j=⟨g,j,none⟩:=by unfold Addr.add;split<;>simp_all
  rw[hadd,cell_of_row W g j _ _ _ hg];have:=congrArg (fun l=>l[j]?) h4
  simp only[List.getElem?_take,Nat.mul_one,hj,if_true] at this;rw[<-zN hj,<-this];simp
theorem info_nm:(Tryz.prog.info? 37).map (fun i=>(i.zero,i.size,i.bytes))=some (some (.slice none 0 0),1,24):=by kernel_rfl
def OfS (B:Nat) (vl:Value) (xv:Value) (a:Addr) (v:Value) (W:World):Prop:=W.cell? ⟨B,1,none⟩=some vl/\W.cell? ⟨B+2,1,none⟩=some xv/\W.cell? a=some v
set_option maxHeartbeats 2000000 in
theorem of4_any (vn vm vt vr:Value) (us:List Value) (t:Int) (w0:World) (h1:Sl vn us w0) (hsl:∀u∈us,∃o l c,u=.slice o l c) (hvm:∃o l c,vm=.slice o l c) (hvt:∃o l c,vt=.slice o l c) (hvr:∃o l c,vr=.slice o l c) (hun:us.length<=1000) :
  Calls Tryz.prog 73 #[.agg #[.int .i64 t,vn,vm,vt,vr]] w0 fun e w'=>∃ox cx,e=.returned (.agg #[.int .i64 t,.slice ox us.length cx,vm,vt,vr]) /\
   Row (fun g=>w0.heap.size+3<=g) 37 1 (.slice ox us.length cx) us.length us w'/\Below w0.heap.size w0 w':=by
 obtain⟨on,cn,rfl,c1,c1'⟩:=h1.form;obtain⟨om,lm,cm,rfl⟩:=hvm;obtain⟨ot,lt,ct,rfl⟩:=hvt;obtain⟨or,lr,cr,rfl⟩:=hvr;have H1:=Hd h1;have HSL:=Hd hsl;obtain⟨ln,hln⟩:=Zq us.length;rw[hln] at c1 hun ⊢;have HL:=Hd hln;have hnz:(ln:Int)<=1000:=by omega
 clear h1 hln hsl;obtain⟨W2,hW2⟩:=Zq ((w0.alloc (.cells #[.int .i64 t,.slice on ln cn,.slice om lm cm,.slice ot lt ct,.slice or lr cr] 107)).alloc (.cells #[.int .i64 0,.slice none 0 0,.slice none 0 0,.slice none 0 0,.slice none 0 0] 117));obtain⟨W3,hW3⟩:=Zq (W2.alloc (.cells #[.int .i64 0,.slice none 0 0,.slice none 0 0,.slice none 0 0,.slice none 0 0] 117));have s2:W2.heap.size=w0.heap.size+2:=by subst hW2;simp
 have hb2:Below w0.heap.size w0 W2:=by subst hW2;exact (Zr).alloc (by simp) _
 have hb3:Below w0.heap.size w0 W3:=by subst hW3;exact hb2.alloc (by omega) _
 have k0:Blk w0.heap.size #[.int .i64 t,.slice on ln cn,.slice om lm cm,.slice ot lt ct,.slice or lr cr] 107 W3:=by subst hW3;subst hW2;exact ((Blk.new w0 _ _).alloc _).alloc _
 have k1:Blk (w0.heap.size+1) #[.int .i64 0,.slice none 0 0,.slice none 0 0,.slice none 0 0,.slice none 0 0] 117 W3:=by
  subst hW3;subst hW2;have:=(Blk.new (w0.alloc (.cells #[.int .i64 t,.slice on ln cn,.slice om lm cm,.slice ot lt ct,.slice or lr cr] 107)) #[.int .i64 0,.slice none 0 0,.slice none 0 0,.slice none 0 0,.slice none 0 0] 117).alloc (.cells #[.int .i64 0,.slice none 0 0,.slice none 0 0,.slice none 0 0,.slice none 0 0] 117)
  rwa [World.size_alloc] at this
 have k2:Blk (w0.heap.size+2) #[.int .i64 0,.slice none 0 0,.slice none 0 0,.slice none 0 0,.slice none 0 0] 117 W3:=by
  have:=Blk.new W2 #[.int .i64 0,.slice none 0 0,.slice none 0 0,.slice none 0 0,.slice none 0 0] 117
  rwa [hW3,s2] at this
 have k0':Blk w0.heap.size #[.int .i64 t,.slice on ln cn,.slice om lm cm,.slice ot lt ct,.slice or lr cr] 107 W2:=by subst hW2;exact (Blk.new w0 _ _).alloc _
 have d0:W2.cell? ⟨w0.heap.size,0,none⟩=some _:=k0'.cell 0;have d2:W2.cell? ⟨w0.heap.size,2,none⟩=some _:=k0'.cell 2;have d3:W2.cell? ⟨w0.heap.size,3,none⟩=some _:=k0'.cell 3;have d4:W2.cell? ⟨w0.heap.size,4,none⟩=some _:=k0'.cell 4;have a0:W3.cell? ⟨w0.heap.size+2,0,none⟩=some _:=k2.cell 0;have a1:W3.cell? ⟨w0.heap.size+2,1,none⟩=some _:=k2.cell 1;have a2:W3.cell? ⟨w0.heap.size+2,2,none⟩=some _:=k2.cell 2;have a3:W3.cell? ⟨w0.heap.size+2,3,none⟩=some _:=k2.cell 3;have a4:W3.cell? ⟨w0.heap.size+2,4,none⟩=some _:=k2.cell 4;have z0:=k2.frozen 0;have z1:=k2.frozen 1;have z2:=k2.frozen 2;have z3:=k2.frozen 3;have z4:=k2.frozen 4;obtain⟨W4,hW4⟩:=Zq (((((W3.setCell ⟨w0.heap.size+2,0,none⟩ (.int .i64 t)).setCell ⟨w0.heap.size+2,1,none⟩ (.slice none 0 0)).setCell ⟨w0.heap.size+2,2,none⟩ (.slice om lm cm)).setCell ⟨w0.heap.size+2,3,none⟩ (.slice ot lt ct)).setCell ⟨w0.heap.size+2,4,none⟩ (.slice or lr cr));have K0:Hid (Blk w0.heap.size #[.int .i64 t,.slice on ln cn,.slice om lm cm,.slice ot lt ct,.slice or lr cr] 107 W4):=by
  subst hW4;exact ((((k0.set (by omega) _).set (by omega) _).set (by omega) _).set (by omega) _).set (by omega) _
 have K1:Hid (Blk (w0.heap.size+1) #[.int .i64 0,.slice none 0 0,.slice none 0 0,.slice none 0 0,.slice none 0 0] 117 W4):=by
  subst hW4;exact ((((k1.set (by omega) _).set (by omega) _).set (by omega) _).set (by omega) _).set (by omega) _
 have K2:Hid (Blk (w0.heap.size+2) #[.int .i64 t,.slice none 0 0,.slice om lm cm,.slice ot lt ct,.slice or lr cr] 117 W4):=by
  subst hW4;exact ((((k2.setAt 0 _).setAt 1 _).setAt 2 _).setAt 3 _).setAt 4 _
 have HB4:Hid (Below w0.heap.size w0 W4):=by
  subst hW4;exact ((((hb3.setCell (p:=⟨w0.heap.size+2,0,none⟩) (by simp) _).setCell (p:=⟨w0.heap.size+2,1,none⟩) (by simp) _).setCell (p:=⟨w0.heap.size+2,2,none⟩) (by simp) _).setCell (p:=⟨w0.heap.size+2,3,none⟩) (by simp) _).setCell (p:=⟨w0.heap.size+2,4,none⟩) (by simp) _
 have HS4:Hid (w0.heap.size+3<=W4.heap.size):=by have:=K2.out.lt;show _<=_;omega
 clear hb2 hb3 k0 k1 k2 k0';have hW2':=hW2;refine (zF (n:=0)).1 ?_;refine callsIn_of_wp Tryz.func73 rfl trivial ?_ rfl;simp only[Tryz.ntmps73,Zo,Ze,Zg,Nat.reduceAdd,Nat.reduceSub,Zi,Zj,Zk,Zl,Zm,Zp];gi_wp2
 gi_loopw [4] (fun i wr=>∃k:Nat,k<=ln/\i=.int .i64 k/\Below w0.heap.size w0 wr/\w0.heap.size+3<=wr.heap.size/\Blk w0.heap.size #[.int .i64 t,.slice on ln cn,.slice om lm cm,.slice ot lt ct,.slice or lr cr] 107 wr /\
   Blk (w0.heap.size+1) #[.int .i64 0,.slice none 0 0,.slice none 0 0,.slice none 0 0,.slice none 0 0] 117 wr /\
   ∃ox cx,Blk (w0.heap.size+2) #[.int .i64 t,.slice ox k cx,.slice om lm cm,.slice ot lt ct,.slice or lr cr] 117 wr/\Row (fun g=>w0.heap.size+3<=g) 37 1 (.slice ox k cx) k (us.take k) wr) (fun i _=>ln-(intOf i).toNat)
 case atStart=>exact⟨0,Nat.zero_le _,rfl,HB4.out,HS4.out,K0.out,K1.out,none,0,K2.out,Row.nil _ _ _ _⟩
 case round =>
  obtain⟨k,hk,rfl,hb,hsz,hk0,hk1,ox,cx,hk2,hrow⟩:=hrel;have q01:wr.cell? ⟨w0.heap.size,1,none⟩=some _:=hk0.cell 1;clear d0 d2 d3 d4 a0 a1 a2 a3 a4 z0 z1 z2 z3 z4 hW2 hW3 hW4 hW2';by_cases hlt:k<ln
  ·have hlz:(k:Int)<(ln:Int):=by omega
   have hku:k<us.length:=by rw[HL.out];exact hlt
   obtain⟨v,hv⟩:=Zq (us[k]);have H1k:Hid (∀W',Below w0.heap.size w0 W'->∃a,on=some a/\W'.cell? (a.add k)=some v):=fun W' hW=>by
    have h:=H1.out;obtain⟨a,ha,hc⟩:=h.cells W' hW k hku;exact⟨a,ha,by rw[hc,hv]⟩
   obtain⟨a,rfl,y1⟩:=H1k.out _ hb;obtain⟨e,he⟩:=Zq (a.add k);rw[he] at y1;have H1e:Hid (∀W',Below w0.heap.size w0 W'->W'.cell? e=some v):=fun W' hW=>by
    obtain⟨a',ha',hc⟩:=H1k.out _ hW;cases ha';rw[he] at hc;exact hc
   obtain⟨ov,lv,cv,rfl⟩:∃o l c,v=.slice o l c:=HSL.out v (by rw[<-hv];exact List.getElem_mem _)
   have HV:=Hd hv;have HK0:=Hd hk0;have HK1:=Hd hk1;have HK2:=Hd hk2;have HRow:=Hd hrow;have hSr:OfS w0.heap.size (.slice (some a) ln cn) (.slice ox k cx) e (.slice ov lv cv) wr:=⟨q01,hk2.cell 1,y1⟩;clear hv hk0 hk1 hk2 hrow y1;gi_wp2_with fail
   refine Z8 [0,1,2,3,4,5,6,7,8,9] (OfS w0.heap.size (.slice (some a) ln cn) (.slice ox k cx) e (.slice ov lv cv)) 11 rfl (by kernel_rfl) ?_
   intro w3 hw3;have hS:OfS w0.heap.size (.slice (some a) ln cn) (.slice ox k cx) e (.slice ov lv cv) w3:=by subst hw3;exact hSr
   have hb3:Below wr.heap.size wr w3:=by subst hw3;exact (Below.refl _ _).drew
   clear hw3 hSr q01;refine tA 0 hS ?_;refine tA 2 hS ?_;refine tA 4 hS ?_;refine tA 3 hS ?_;refine tA 5 hS ?_;refine tA 1 hS ?_;refine tA 6 hS ?_;simp only[Act.put,Za,Zd,Zc];refine oneH 7 (by rfl) (by kernel_rfl) (fun K hK=>?_)
   gi_wp2_with fail
   obtain⟨W9,hW9⟩:=Zq (w3.alloc (.cells #[.slice ov lv cv] 37));rw[hW9];have hb9:Below wr.heap.size wr W9:=by subst hW9;exact hb3.alloc hb3.size _
   have hMK:Hid (∀W',Below wr.heap.size wr W'->OfS w0.heap.size (.slice (some a) ln cn) (.slice ox k cx) e (.slice ov lv cv) W'):=fun W' hW=>⟨(HK0.out.below hW).cell 1,(HK2.out.below hW).cell 1,H1e.out _ (hb.trans (hW.mono (by omega)))⟩
   have hnew:W9.cell? ⟨w3.heap.size,0,none⟩=some (.slice ov lv cv):=by subst hW9;exact (Box.new w3 37 (.slice ov lv cv)).cell
   have hs9:wr.heap.size+1<=W9.heap.size:=by subst hW9;have:=hb3.size;simp;omega
   refine hK _ _ (fun _=>hMK.out _ hb9) ?_
   clear hK K hW9 hS;have hrow9:=HRow.out.below hb9;obtain⟨i0,hi,hz0,hz1,hz2⟩:=info_parts info_nm;have HI:=Hd (And.intro hi (And.intro hz0 (And.intro hz1 hz2)));clear hi hz0 hz1 hz2;have hcell1:∀(j:Nat) (u:Value),[Value.slice ov lv cv][j]? = some u->W9.cell? ((⟨w3.heap.size,0,none⟩:Addr).add j)=some u:=fun j u hj=>by
    rcases j with _|j
    ·cases hj;exact hnew
    ·cases hj
   have hl1:k+1<=maxLen/\(k+1)*24<=140737488355328:=by unfold maxLen;omega
   refine oneH 8 (by rfl) (by kernel_rfl) (fun K hK=>?_)
   gi_wp2_with (gi_at_builtin;refine append_in (fun g=>w0.heap.size+3<=g) rfl _ _ _ rfl 37 i0 _ 1 24 Tryz.underlying96 HI.out.1 HI.out.2.1 HI.out.2.2.1 HI.out.2.2.2 rfl (by decide) _ k (us.take k) (by rfl) hrow9 ⟨w3.heap.size,0,none⟩ 1 1 [.slice ov lv cv] (by rfl) rfl hcell1 (fun u hu=>by rw[List.mem_singleton] at hu;subst hu;rfl) hl1.1 hl1.2 (by omega) ?_;intro v10 w10 hrow10 hgr10 _)
   have hbg:Below wr.heap.size wr w10\/True:=.inr trivial;have hx0:Blk w0.heap.size #[.int .i64 t,.slice (some a) ln cn,.slice om lm cm,.slice ot lt ct,.slice or lr cr] 107 w10:=(hgr10.block _ (HK0.out.below hb9).lt (fun e=>by have:=hrow9.2 _ e.symm;omega)).trans (HK0.out.below hb9)
   have hx1:Blk (w0.heap.size+1) #[.int .i64 0,.slice none 0 0,.slice none 0 0,.slice none 0 0,.slice none 0 0] 117 w10:=(hgr10.block _ (HK1.out.below hb9).lt (fun e=>by have:=hrow9.2 _ e.symm;omega)).trans (HK1.out.below hb9)
   have hx2:Blk (w0.heap.size+2) #[.int .i64 t,.slice ox k cx,.slice om lm cm,.slice ot lt ct,.slice or lr cr] 117 w10:=(hgr10.block _ (HK2.out.below hb9).lt (fun e=>by have:=hrow9.2 _ e.symm;omega)).trans (HK2.out.below hb9)
   have hb10:Below w0.heap.size w0 w10:=(hb.trans (hb9.mono (by omega))).grown hgr10 (by omega) (fun g hg=>by have:=hrow9.2 g hg;omega)
   have hs10:w0.heap.size+3<=w10.heap.size:=by have:=hgr10.size;omega
   have hS10:OfS w0.heap.size (.slice (some a) ln cn) (.slice ox k cx) e (.slice ov lv cv) w10:=⟨hx0.cell 1,hx2.cell 1,H1e.out _ hb10⟩;refine hK _ _ (fun _=>hS10) ?_
   clear hK K hbg hrow9 hnew hcell1 hb9 hgr10;have hS:=hS10;clear hS10;obtain⟨o11,c11,rfl⟩:=hrow10.form;refine tA 9 hS ?_;simp only[Act.put,Za,Zd,Zc];have d3:w10.cell? ⟨w0.heap.size+2,1,none⟩=some _:=hx2.cell 1;have f3:=hx2.frozen 1;refine oneH 10 (by rfl) (by kernel_rfl) (fun K hK=>?_)
   gi_wp2_with fail
   obtain⟨W12,hW12⟩:=Zq (w10.setCell ⟨w0.heap.size+2,1,none⟩ (.slice o11 (k+1) c11));have hy0:Blk w0.heap.size #[.int .i64 t,.slice (some a) ln cn,.slice om lm cm,.slice ot lt ct,.slice or lr cr] 107 W12:=by subst hW12;exact hx0.set (by omega) _
   have hy1:Blk (w0.heap.size+1) #[.int .i64 0,.slice none 0 0,.slice none 0 0,.slice none 0 0,.slice none 0 0] 117 W12:=by subst hW12;exact hx1.set (by omega) _
   have hy2:Blk (w0.heap.size+2) #[.int .i64 t,.slice o11 (k+1) c11,.slice om lm cm,.slice ot lt ct,.slice or lr cr] 117 W12:=by subst hW12;exact hx2.setAt 1 _
   have hrow12:Row (fun g=>w0.heap.size+3<=g) 37 1 (.slice o11 (k+1) c11) (k+1) (us.take k++[.slice ov lv cv]) W12:=by subst hW12;exact hrow10.setOther (fun h=>by omega) _
   have hb12:Below w0.heap.size w0 W12:=by subst hW12;exact hb10.setCell (p:=⟨w0.heap.size+2,1,none⟩) (by simp) _
   have hs12:w0.heap.size+3<=W12.heap.size:=by subst hW12;simpa[World.setCell] using hs10
   rw[hW12];refine hK _ _ (fun h=>absurd h (by decide)) ?_
   clear hK K hW12 d3 f3 hS hx0 hx1 hx2 hrow10 hb10 hs10;refine Z9 (by kernel_rfl) ?_
   gi_wp2_with fail
   refine⟨⟨k+1,hlt,by go_num,hb12,hs12,hy0,hy1,o11,c11,hy2,?_⟩,by simp[intOf];omega⟩
   rw[Zx hku,HV.out];exact hrow12
  ·have hlz:¬((k:Int)<(ln:Int)):=by omega
   obtain rfl:k=ln:=by omega
   have p0:wr.cell? ⟨w0.heap.size+2,0,none⟩=some _:=hk2.cell 0;have p1:wr.cell? ⟨w0.heap.size+2,1,none⟩=some _:=hk2.cell 1;have p2:wr.cell? ⟨w0.heap.size+2,2,none⟩=some _:=hk2.cell 2;have p3:wr.cell? ⟨w0.heap.size+2,3,none⟩=some _:=hk2.cell 3;have p4:wr.cell? ⟨w0.heap.size+2,4,none⟩=some _:=hk2.cell 4;have r0:wr.cell? ⟨w0.heap.size+1,0,none⟩=some _:=hk1.cell 0;have r1:wr.cell? ⟨w0.heap.size+1,1,none⟩=some _:=hk1.cell 1;have r2:wr.cell? ⟨w0.heap.size+1,2,none⟩=some _:=hk1.cell 2;have r3:wr.cell? ⟨w0.heap.size+1,3,none⟩=some _:=hk1.cell 3;have r4:wr.cell? ⟨w0.heap.size+1,4,none⟩=some _:=hk1.cell 4;have f0:=hk1.frozen 0;have f1:=hk1.frozen 1;have f2:=hk1.frozen 2;have f3:=hk1.frozen 3;have f4:=hk1.frozen 4;obtain⟨We,hWe⟩:=Zq (((((wr.setCell ⟨w0.heap.size+1,0,none⟩ (.int .i64 t)).setCell ⟨w0.heap.size+1,1,none⟩ (.slice ox k cx)).setCell ⟨w0.heap.size+1,2,none⟩ (.slice om lm cm)).setCell ⟨w0.heap.size+1,3,none⟩ (.slice ot lt ct)).setCell ⟨w0.heap.size+1,4,none⟩ (.slice or lr cr));have hke:Blk (w0.heap.size+1) #[.int .i64 t,.slice ox k cx,.slice om lm cm,.slice ot lt ct,.slice or lr cr] 117 We:=by subst hWe;exact ((((hk1.setAt 0 _).setAt 1 _).setAt 2 _).setAt 3 _).setAt 4 _
   have hbe:Below w0.heap.size w0 We:=by
    subst hWe;exact ((((hb.setCell (p:=⟨w0.heap.size+1,0,none⟩) (by simp) _).setCell (p:=⟨w0.heap.size+1,1,none⟩) (by simp) _).setCell (p:=⟨w0.heap.size+1,2,none⟩) (by simp) _).setCell (p:=⟨w0.heap.size+1,3,none⟩) (by simp) _).setCell (p:=⟨w0.heap.size+1,4,none⟩) (by simp) _
   have hre:Row (fun g=>w0.heap.size+3<=g) 37 1 (.slice ox k cx) k (us.take k) We:=by
    subst hWe;exact ((((hrow.setOther (fun h=>by omega) _).setOther (fun h=>by omega) _).setOther (fun h=>by omega) _).setOther (fun h=>by omega) _).setOther (fun h=>by omega) _
   have e0:We.cell? ⟨w0.heap.size+1,0,none⟩=some _:=hke.cell 0;have e1:We.cell? ⟨w0.heap.size+1,1,none⟩=some _:=hke.cell 1;have e2:We.cell? ⟨w0.heap.size+1,2,none⟩=some _:=hke.cell 2;have e3:We.cell? ⟨w0.heap.size+1,3,none⟩=some _:=hke.cell 3;have e4:We.cell? ⟨w0.heap.size+1,4,none⟩=some _:=hke.cell 4;have E:=Hd (And.intro e0 (And.intro e1 (And.intro e2 (And.intro e3 e4))));have HRE:=Hd hre;have HBE:=Hd hbe;clear hk0 hk1 hk2 hrow hre hbe hke;gi_wp2_with fail
   obtain⟨e0,e1,e2,e3,e4⟩:=E.out;refine bodyPost_ret (v:=.agg #[.int .i64 t,.slice ox k cx,.slice om lm cm,.slice ot lt ct,.slice or lr cr]) (by simp at e0 e1 e2 e3 e4;simp[results,Tryz.results73,go_sem,e0,e1,e2,e3,e4]) rfl ?_
   have hr:=HRE.out;have hl:=HL.out;have hbE:=HBE.out;rw[List.take_of_length_le (by omega)] at hr
   exact⟨ox,cx,rfl,hr,hbE⟩
end
section
open Go.RowKit Go.Shelf Go.Sort
def Sv (B:Nat) (c0 c1 c2 c3 c4 c5 c6:Value) (W:World):Prop:=W.cell? ⟨B,0,none⟩=some c0/\W.cell? ⟨B,1,none⟩=some c1/\W.cell? ⟨B,2,none⟩=some c2/\W.cell? ⟨B,3,none⟩=some c3/\W.cell? ⟨B,4,none⟩=some c4/\W.cell? ⟨B,5,none⟩=some c5/\W.cell? ⟨B,6,none⟩=some c6
theorem Sv.of {B:Nat} {c0 c1 c2 c3 c4 c5 c6:Value} {t:TypeId} {W:World} (h:Blk B #[c0,c1,c2,c3,c4,c5,c6] t W):Sv B c0 c1 c2 c3 c4 c5 c6 W:=⟨h.cell 0,h.cell 1,h.cell 2,h.cell 3,h.cell 4,h.cell 5,h.cell 6⟩
theorem DatRd.cells {ds:List Value} {r:Rc.PRec} {W:World} (h:DatRd ds r W):∃p1 n1 q1 p2 n2 q2 p3 n3 q3 p4 n4 q4,ds=[.int .i64 r.type,.slice p1 n1 q1,.slice p2 n2 q2,.slice p3 n3 q3,.slice p4 n4 q4]:=by
 obtain⟨vn,vm,vt,vr,rfl,⟨us,_,⟨p1,q1,rfl,_⟩,_⟩,⟨p2,q2,rfl,_⟩,⟨p3,q3,rfl,_⟩,⟨p4,q4,rfl,_⟩⟩:=h;exact⟨_,_,_,_,_,_,_,_,_,_,_,_,rfl⟩
set_option maxHeartbeats 2000000 in
theorem of5_any (vs:List Value) (r:Rc.PRec) (w0:World) (h:RecRd vs r w0) (hn:r.names.length<=1000) :
  Calls Tryz.prog 44 #[.agg vs.toArray] w0 fun e w'=>∃vs',e=.returned (.agg vs'.toArray)/\RecRd vs' r w'/\Below w0.heap.size w0 w':=by
 obtain⟨p0,n0,q0,p1,n1,q1,p2,n2,q2,p3,n3,q3,p4,n4,q4,rfl,hro,hrd⟩:=h.cells;obtain⟨W2,hW2⟩:∃W2,(w0.alloc (.cells #[.slice p0 n0 q0,.int .u32 (r.ttl:Int),.int .i64 r.type,.slice p1 n1 q1,.slice p2 n2 q2,.slice p3 n3 q3,.slice p4 n4 q4] 110)).alloc (.cells #[.slice none 0 0,.int .u32 0,.int .i64 0,.slice none 0 0,.slice none 0 0,.slice none 0 0,.slice none 0 0] 119)=W2:=⟨_,rfl⟩;have hb2:Below w0.heap.size w0 W2:=by subst hW2;exact (Zr).alloc (by simp) _
 have k0:Blk w0.heap.size #[.slice p0 n0 q0,.int .u32 (r.ttl:Int),.int .i64 r.type,.slice p1 n1 q1,.slice p2 n2 q2,.slice p3 n3 q3,.slice p4 n4 q4] 110 W2:=by subst hW2;exact (Blk.new w0 _ _).alloc _
 have k1:Blk (w0.heap.size+1) #[.slice none 0 0,.int .u32 0,.int .i64 0,.slice none 0 0,.slice none 0 0,.slice none 0 0,.slice none 0 0] 119 W2:=by
  subst hW2;have:=Blk.new (w0.alloc (.cells #[.slice p0 n0 q0,.int .u32 (r.ttl:Int),.int .i64 r.type,.slice p1 n1 q1,.slice p2 n2 q2,.slice p3 n3 q3,.slice p4 n4 q4] 110)) #[.slice none 0 0,.int .u32 0,.int .i64 0,.slice none 0 0,.slice none 0 0,.slice none 0 0,.slice none 0 0] 119
  rwa [World.size_alloc] at this
 have HB:=Hd hb2;have K1:=Hd k1;have HRO:=Hd hro;have HRD:=Hd hrd;obtain⟨vn',vm',vt',vr',he,⟨us,hul,hs1,hs2⟩,h2',h3',h4'⟩:=hrd;cases he;have HC:=Hd (fun w' (hw:Below w0.heap.size w0 w')=>of4_any (.slice p1 n1 q1) (.slice p2 n2 q2) (.slice p3 n3 q3) (.slice p4 n4 q4) us r.type w' (hs1.below hw) (fun u hu=>by
  obtain⟨i,hi,rfl⟩:=List.mem_iff_getElem.1 hu;obtain⟨o,c,h,_⟩:=(hs2 i hi (by omega)).form
  exact⟨_,_,_,h⟩) ⟨_,_,_,rfl⟩ ⟨_,_,_,rfl⟩ ⟨_,_,_,rfl⟩ (by omega))
 have HU:=Hd hs2;have HDR:=Hd (And.intro h2' (And.intro h3' h4'));have hSr:=Sv.of k0;have K0:=Hd k0;obtain⟨m1,hm1⟩:=Zq us.length;rw[hm1] at HC;have HUL:=Hd (And.intro hul hm1);clear hro h k0 k1 hb2 hs1 hs2 h2' h3' h4' hul hm1 HRD;refine (zF (n:=0)).1 ?_;refine callsIn_of_wp Tryz.func44 rfl trivial ?_ rfl;simp only[Tryz.ntmps44,Zo,Ze,Zg,Nat.reduceAdd,Nat.reduceSub,Zi,Zj,Zk,Zl,Zm,Zp];gi_wp2_with fail
 refine Z8 [0,1,2,3,4,5,6,7] (Sv w0.heap.size (.slice p0 n0 q0) (.int .u32 (r.ttl:Int)) (.int .i64 r.type) (.slice p1 n1 q1) (.slice p2 n2 q2) (.slice p3 n3 q3) (.slice p4 n4 q4)) 9 rfl (by kernel_rfl) ?_
 intro w3 hw3;have hS:Sv w0.heap.size (.slice p0 n0 q0) (.int .u32 (r.ttl:Int)) (.int .i64 r.type) (.slice p1 n1 q1) (.slice p2 n2 q2) (.slice p3 n3 q3) (.slice p4 n4 q4) w3:=by subst hw3;exact hSr
 have hb3:Below W2.heap.size W2 w3:=by subst hw3;exact (Below.refl _ _).drew
 clear hw3 hSr hW2;refine tA 0 hS ?_;refine tA 2 hS ?_;refine tA 4 hS ?_;refine tA 1 hS ?_;refine tA 3 hS ?_;refine tA 5 hS ?_;simp only[Act.put,Za,Zd,Zc];have hbs3:=hb3.size;have HC3:=Hd (HC.out _ (Z5 HB.out hb3));refine oneH 6 (by rfl) (by kernel_rfl) (fun K hK=>?_)
 gi_wp2_with (gi_at_call 73;refine (callsIn_wide.2 HC3.out).mono ?_;rintro e w4 ⟨r1,t1,rfl,hrow4,b4⟩)
 have hb4:=Z5 hb3 b4;have hS4:Sv w0.heap.size (.slice p0 n0 q0) (.int .u32 (r.ttl:Int)) (.int .i64 r.type) (.slice p1 n1 q1) (.slice p2 n2 q2) (.slice p3 n3 q3) (.slice p4 n4 q4) w4:=Sv.of (K0.out.below hb4);refine hK _ _ (fun _=>hS4) ?_
 clear hK K hS hb3 b4;have hS:=hS4;clear hS4;refine tA 7 hS ?_;simp only[Act.put,Za,Zd,Zc];have k1:=K1.out.below hb4;have a0:w4.cell? ⟨w0.heap.size+1,0,none⟩=some _:=k1.cell 0;have a1:w4.cell? ⟨w0.heap.size+1,1,none⟩=some _:=k1.cell 1;have a2:w4.cell? ⟨w0.heap.size+1,2,none⟩=some _:=k1.cell 2;have a3:w4.cell? ⟨w0.heap.size+1,3,none⟩=some _:=k1.cell 3;have a4:w4.cell? ⟨w0.heap.size+1,4,none⟩=some _:=k1.cell 4;have a5:w4.cell? ⟨w0.heap.size+1,5,none⟩=some _:=k1.cell 5;have a6:w4.cell? ⟨w0.heap.size+1,6,none⟩=some _:=k1.cell 6;have f0:=k1.frozen 0;have f1:=k1.frozen 1;have f2:=k1.frozen 2;have f3:=k1.frozen 3;have f4:=k1.frozen 4;have f5:=k1.frozen 5;have f6:=k1.frozen 6;obtain⟨We,hWe⟩:∃We,((((((w4.setCell ⟨w0.heap.size+1,0,none⟩ (.slice p0 n0 q0)).setCell ⟨w0.heap.size+1,1,none⟩ (.int .u32 (r.ttl:Int))).setCell ⟨w0.heap.size+1,2,none⟩ (.int .i64 r.type)).setCell ⟨w0.heap.size+1,3,none⟩ (.slice r1 m1 t1)).setCell ⟨w0.heap.size+1,4,none⟩ (.slice p2 n2 q2)).setCell ⟨w0.heap.size+1,5,none⟩ (.slice p3 n3 q3)).setCell ⟨w0.heap.size+1,6,none⟩ (.slice p4 n4 q4)=We:=⟨_,rfl⟩;have ke:Blk (w0.heap.size+1) #[.slice p0 n0 q0,.int .u32 (r.ttl:Int),.int .i64 r.type,.slice r1 m1 t1,.slice p2 n2 q2,.slice p3 n3 q3,.slice p4 n4 q4] 119 We:=by
  subst hWe;exact ((((((k1.setAt 0 _).setAt 1 _).setAt 2 _).setAt 3 _).setAt 4 _).setAt 5 _).setAt 6 _
 have hbe:Below w0.heap.size w0 We:=by
  subst hWe;exact (((((((Z5 HB.out hb4).setCell (p:=⟨w0.heap.size+1,0,none⟩) (by simp) _).setCell (p:=⟨w0.heap.size+1,1,none⟩) (by simp) _).setCell (p:=⟨w0.heap.size+1,2,none⟩) (by simp) _).setCell (p:=⟨w0.heap.size+1,3,none⟩) (by simp) _).setCell (p:=⟨w0.heap.size+1,4,none⟩) (by simp) _).setCell (p:=⟨w0.heap.size+1,5,none⟩) (by simp) _).setCell (p:=⟨w0.heap.size+1,6,none⟩) (by simp) _
 have hrowe:Row (fun g=>w3.heap.size+3<=g) 37 1 (.slice r1 m1 t1) m1 us We:=by
  have hlt:w0.heap.size+1<w3.heap.size:=by
   have h1:=K1.out.lt;have h2:=hbs3;omega
  subst hWe;exact ((((((hrow4.setOther (fun h=>by omega) _).setOther (fun h=>by omega) _).setOther (fun h=>by omega) _).setOther (fun h=>by omega) _).setOther (fun h=>by omega) _).setOther (fun h=>by omega) _).setOther (fun h=>by omega) _
 have KE:=Hd ke;have HBE:=Hd hbe;have HRE:=Hd hrowe;clear ke hbe hrowe hrow4 k1;refine oneH 8 (by rfl) (by kernel_rfl) (fun K hK=>?_)
 gi_wp2_with fail
 refine hK _ _ (fun h=>absurd h (by decide)) ?_
 clear hK K hS;refine Z9 (by kernel_rfl) ?_
 have e0:We.cell? ⟨w0.heap.size+1,0,none⟩=some _:=KE.out.cell 0;have e1:We.cell? ⟨w0.heap.size+1,1,none⟩=some _:=KE.out.cell 1;have e2:We.cell? ⟨w0.heap.size+1,2,none⟩=some _:=KE.out.cell 2;have e3:We.cell? ⟨w0.heap.size+1,3,none⟩=some _:=KE.out.cell 3;have e4:We.cell? ⟨w0.heap.size+1,4,none⟩=some _:=KE.out.cell 4;have e5:We.cell? ⟨w0.heap.size+1,5,none⟩=some _:=KE.out.cell 5;have e6:We.cell? ⟨w0.heap.size+1,6,none⟩=some _:=KE.out.cell 6;gi_wp2_with fail
 refine bodyPost_ret (v:=.agg #[.slice p0 n0 q0,.int .u32 (r.ttl:Int),.int .i64 r.type,.slice r1 m1 t1,.slice p2 n2 q2,.slice p3 n3 q3,.slice p4 n4 q4]) (by simp at e0 e1 e2 e3 e4 e5 e6;simp[results,Tryz.results44,go_sem,e0,e1,e2,e3,e4,e5,e6]) rfl ?_
 have hbE:=HBE.out;obtain⟨hul,hm1⟩:=HUL.out;have hsl:Sl (.slice r1 m1 t1) us We:=by
  have h:=HRE.out;rw[<-hm1] at h ⊢;exact h.sl
 obtain⟨h2,h3,h4⟩:=HDR.out;exact⟨[.slice p0 n0 q0,.int .u32 (r.ttl:Int),.int .i64 r.type,.slice r1 m1 t1,.slice p2 n2 q2,.slice p3 n3 q3,.slice p4 n4 q4],rfl,⟨_,_,rfl,HRO.out.below hbE,_,_,_,_,rfl,⟨us,hul,hsl,fun i h h'=>(HU.out i h h').below hbE⟩,h2.below hbE,h3.below hbE,Sl.below h4 hbE⟩,hbE⟩
end
section
open Go.RowKit Go.Shelf
def GRd (k:Nat) (v:Value) (xs:List (List Value)) (W:World):Prop :=
 ∃o cap,v=.slice o xs.length cap/\xs.length<=cap/\cap<=maxLen/\(o=none->cap=0)/\(∀x∈xs,x.length=k/\∀u∈x,u.oneCell'=true) /\
  ∀i (h:i<xs.length) c,c<k->∃a,o=some a/\W.cell? (a.add (i*k+c))=xs[i][c]?
theorem GRd.keep {k v xs} {W W':World} (h:GRd k v xs W) (hk:∀p u,W.cell? p=some u->W'.cell? p=some u):GRd k v xs W':=by
 obtain⟨o,cap,h1,h2,h3,h4,h5,h6⟩:=h;refine⟨o,cap,h1,h2,h3,h4,h5,fun i hi c hc=>?_⟩
 obtain⟨a,ha,e⟩:=h6 i hi c hc;refine⟨a,ha,?_⟩;have hl:c<xs[i].length:=by rw[(h5 _ (List.getElem_mem hi)).1];exact hc
 rw[zN hl] at e ⊢;exact hk _ _ e
theorem GRd.below {k v xs} {W W':World} (h:GRd k v xs W) (hb:Below W.heap.size W W'):GRd k v xs W':=h.keep fun _ _ e=>(hb.cell (zG e)).trans e
theorem GRd.cells_kept {k v xs} {W W':World} (h:GRd k v xs W) (hk:CellsKept W W'):GRd k v xs W':=h.keep fun _ _ e=>hk.cell e
theorem GRd.nil (k:Nat) (W:World):GRd k (.slice none 0 0) [] W:=⟨none,0,rfl,by simp,by unfold maxLen;omega,fun _=>rfl,by simp,fun i h=>by simp at h⟩
theorem GRd.form {k v xs} {W:World} (h:GRd k v xs W):∃o cap,v=.slice o xs.length cap/\xs.length<=cap/\cap<=9223372036854775807:=by
 obtain⟨o,cap,h1,h2,h3,_⟩:=h;exact⟨o,cap,h1,h2,by unfold maxLen at h3;exact h3⟩
theorem GRd.el {k:Nat} {o:Option Addr} {n cap:Nat} {xs:List (List Value)} {W:World} (h:GRd k (.slice o n cap) xs W) (hk:0<k) (i:Nat) (hi:i<xs.length):∃a,o=some a/\∀c,c<k->W.cell? (a.add (i*k+c))=xs[i][c]?:=by
 obtain⟨o',cap',e,_,_,_,_,h6⟩:=h;cases e;obtain⟨a,ha,_⟩:=h6 i hi 0 hk;refine⟨a,ha,fun c hc=>?_⟩
 obtain⟨a',ha',e⟩:=h6 i hi c hc;rw[ha] at ha';cases ha';exact e
theorem GRd.at {k:Nat} {o:Option Addr} {n cap:Nat} {xs:List (List Value)} {W:World} (h:GRd k (.slice o n cap) xs W) (hk:0<k) (i:Nat) (hi:i<xs.length):∃a,o=some a/\W.cell? (a.add (i*k))=xs[i][0]?/\∀c,0<c->c<k->W.cell? ⟨(a.add (i*k)).block,(a.add (i*k)).off+c,none⟩=xs[i][c]?:=by
 obtain⟨a,ha,h1⟩:=h.el hk i hi;refine⟨a,ha,h1 0 hk,fun c h0 hc=>?_⟩
 have h2:=h1 c hc;rw[<-add_add'] at h2;rw[<-h2];have h3:∀q:Addr,(⟨q.block,q.off+c,none⟩:Addr)=q.add c:=fun q=>by unfold Addr.add;rw[if_neg (by omega)]
 rw[h3]
theorem GRd.len {k v xs} {W:World} (h:GRd k v xs W):∀x∈xs,x.length=k:=by
 obtain⟨_,_,_,_,_,_,h5,_⟩:=h;exact fun x hx=>(h5 x hx).1
theorem GRd.one {k v xs} {W:World} (h:GRd k v xs W):∀x∈xs,∀u∈x,u.oneCell'=true:=by
 obtain⟨_,_,_,_,_,_,h5,_⟩:=h;exact fun x hx=>(h5 x hx).2
theorem flatten_len {k:Nat}:∀{xs:List (List Value)},(∀x∈xs,x.length=k)->xs.flatten.length=xs.length*k
 | [],_=>by simp
 | x::xs,h=>by
  rw[List.flatten_cons,Zb,h x Zu,flatten_len (fun y hy=>h y (Zv _ hy)),Ze,Nat.add_mul];omega
theorem flatten_get {k:Nat}:∀{xs:List (List Value)},(∀x∈xs,x.length=k)->∀(i c:Nat) (hi:i<xs.length) (_:c<k),xs.flatten[i*k+c]? = xs[i][c]?
 | x::xs,h,0,c,_,hc=>by
  have hx:=h x Zu;rw[List.flatten_cons,Nat.zero_mul,Nat.zero_add,List.getElem?_append_left (by omega)];rfl
 | x::xs,h,i+1,c,hi,hc=>by
  have hx:=h x Zu;have ih:=flatten_get (fun y hy=>h y (Zv _ hy)) i c (by simpa using hi) hc
  rw[List.flatten_cons,List.getElem?_append_right (by rw[hx,Nat.add_mul];omega),hx,show (i+1)*k+c-k=i*k+c by rw[Nat.add_mul];omega,ih]
  rfl
theorem Row.grd {R:Nat->Prop} {e:TypeId} {k:Nat} {v:Value} {xs:List (List Value)} {W:World} (h:Row R e k v xs.length xs.flatten W) (hx:∀x∈xs,x.length=k/\∀u∈x,u.oneCell'=true):GRd k v xs W:=by
 obtain⟨⟨hl,ho⟩,_⟩:=h;rcases ho with⟨rfl,h0⟩|⟨g,cap,cur,rfl,_,hg,h1,h2,h3,h4⟩
 ·have:xs=[]:=List.length_eq_zero_iff.1 h0
  subst this;exact GRd.nil _ _
 ·refine⟨some ⟨g,0,none⟩,cap,rfl,h1,h2,(fun h=>by cases h),hx,fun i hi c hc=>⟨_,rfl,?_⟩⟩
  have hadd:∀j,(⟨g,0,none⟩:Addr).add j=⟨g,j,none⟩:=fun j=>by unfold Addr.add;split<;>simp_all
  rw[hadd,cell_of_row W g _ _ _ _ hg,<-flatten_get (fun x hx'=>(hx x hx').1) i c hi hc,<-h4,List.getElem?_take]
  have:i*k+c<xs.length*k:=by
   have:(i+1)*k<=xs.length*k:=Nat.mul_le_mul_right _ hi
   rw[Nat.add_mul] at this;omega
  rw[if_pos this];simp
theorem GRd.new {k:Nat} (x:List Value) (hx:x.length=k) (h1:∀u∈x,u.oneCell'=true) (W:World) (t:TypeId):GRd k (.slice (some ⟨W.heap.size,0,none⟩) 1 1) [x] (W.alloc (.cells x.toArray t)):=by
 refine⟨some ⟨W.heap.size,0,none⟩,1,rfl,by simp,by unfold maxLen;omega,(fun h=>by cases h),fun y hy=>?_,fun i hi c hc=>⟨_,rfl,?_⟩⟩
 ·rw[List.mem_singleton] at hy;subst hy;exact⟨hx,h1⟩
 ·have hi0:i=0:=by simpa using hi
  subst hi0;have hadd:∀j,(⟨W.heap.size,0,none⟩:Addr).add j=⟨W.heap.size,j,none⟩:=fun j=>by unfold Addr.add;split<;>simp_all
  rw[hadd,cell_of_row _ W.heap.size _ _ t (0,0) (World.alloc_heap_new W _)];simp
theorem GRd.drop {k:Nat} {o:Option Addr} {n cap:Nat} {xs:List (List Value)} {W:World} (h:GRd k (.slice o n cap) xs W) (i:Nat) (hi:i<=n):GRd k (.slice (o.map (·.add (i*k))) (n-i) (cap-i)) (xs.drop i) W:=by
 obtain⟨o',cap',e,h2,h3,h4,h5,h6⟩:=h;cases e;refine⟨_,cap-i,by rw[List.length_drop],by rw[List.length_drop];omega,by omega,fun e=>?_,fun x hx=>h5 x (List.mem_of_mem_drop hx),fun j hj c hc=>?_⟩
 ·cases o with
  | none=>have:=h4 rfl;omega
  | some a=>cases e
 ·rw[List.length_drop] at hj
  obtain⟨a,rfl,e⟩:=h6 (i+j) (by omega) c hc
  refine⟨a.add (i*k),rfl,?_⟩;rw[add_add',show i*k+(j*k+c)=(i+j)*k+c by rw[Nat.add_mul];omega,e]
  simp
theorem GRd.empty (k:Nat) (o:Option Addr) (cap:Nat) (hc:cap=0) (W:World):GRd k (.slice o 0 cap) [] W:=⟨o,cap,rfl,by simp,by unfold maxLen;omega,fun _=>hc,by simp,fun i h=>by simp at h⟩
theorem GRd.drop0 {k:Nat} {o:Option Addr} {n cap:Nat} {xs:List (List Value)} {W:World} (h:GRd k (.slice o n cap) xs W) (i:Nat) (hi:i<=n) (hc:cap=i):GRd k (.slice o (n-i) 0) (xs.drop i) W:=by
 obtain⟨o',cap',e,h2,_⟩:=h;cases e;rw[Zz (by omega),show xs.length-i=0 by omega]
 exact GRd.empty k o 0 rfl W
theorem GRd.take {k:Nat} {o:Option Addr} {n cap:Nat} {xs:List (List Value)} {W:World} (h:GRd k (.slice o n cap) xs W) (i c':Nat) (hi:i<=n) (hic:i<=c') (hc:c'<=cap) (hn:o=none->c'=0):GRd k (.slice o i c') (xs.take i) W:=by
 obtain⟨o',cap',e,h2,h3,h4,h5,h6⟩:=h;cases e;have hl:(xs.take i).length=i:=by rw[List.length_take];omega
 refine⟨o,c',by rw[hl],by omega,by omega,hn,fun x hx=>h5 x (List.mem_of_mem_take hx),fun j hj c hc=>?_⟩
 obtain⟨a,ha,e⟩:=h6 j (by omega) c hc
 exact⟨a,ha,by rw[e,List.getElem_take]⟩
section
variable {F:Fence} {n:Nat}
theorem Z7 (R:Nat->Prop) {ops:Array Oper} {rest:List Oper} {o:Oper} {a:Act} {w:World} {Q:Exit->Act->World->Prop} (et:TypeId) (z:Value) (k bytes:Nat)
  (hinf:(Tryz.prog.info? et).map (fun i=>(i.zero,i.size,i.bytes))=some (some z,k,bytes)) (hz:z.cells.size=k) (hk:0<k)
  (hg:o.guard=none) (s x:Operand) (t:TypeId) (ht:Tryz.prog.underlying t=some (.slice et)) (hop:o.op=Op.call { callee:=Callee.builtin Builtin.append,args:=#[s,x],argTypes:=#[t,t] })
  (v:Value) (j:Nat) (xs:List (List Value)) (hs:a.eval s=v) (hrow:Row R et k v j xs.flatten w) (u:Value) (l:List (List Value)) (hx:a.eval x=u) (hu:GRd k u l w) (hb:j+l.length<=100000) (hby:bytes<=1000000000) (hR:R w.heap.size)
  (hK:∀v' w',Row R et k v' (j+l.length) (xs++l).flatten w'->w.grownBy w' v.ownBlock->wpListIn F n Tryz.prog ops Q rest (a.put o.dst v') w') :
  wpListIn F n Tryz.prog ops Q (o::rest) a w:=by
 obtain⟨i0,hi,hz0,hz1,hz2⟩:=info_parts hinf;obtain⟨oa,cap,rfl,h1,h2,h3,h4,h5⟩:=hu;cases oa with
 | none =>
  obtain rfl:cap=0:=h3 rfl;have hl:l=[]:=List.length_eq_zero_iff.1 (by omega)
  subst hl;refine wpListIn_plain hg fun K hK'=>?_
  have hrun:=run_append_owned_none (P:=Tryz.prog) (w:=w) 0 t o.type et i0 k ht hi v j _ hrow.1;unfold Oper.wpIn;refine⟨?_,?_⟩
  ·simp[Oper.about,hop,resolve,Target.leads,Sem.run_pure]
  ·rw[Oper.semAt_plain F _ _ (by rw[hop];intro c hc';cases hc')]
   simp only[Zg] at hx;simp[execOp,hop,resolve,invoke,builtin,hs,hx,hrun,Result.andThen];exact hK' _ _ (hK _ _ (by simpa using hrow) ⟨rfl,rfl,rfl,Zh _,fun _ _ _=>rfl⟩)
 | some ad =>
  have hl5:∀y∈l,y.length=k:=fun y hy=>(h4 y hy).1
  refine append_in R hg s x t hop et i0 z k bytes ht hi hz0 hz1 hz2 hz hk v j xs.flatten hs hrow ad l.length cap l.flatten hx (flatten_len hl5) (fun q u hq=>?_) (fun u hu=>?_) (by unfold maxLen;omega) (by
   have:(j+l.length)*bytes<=100000*1000000000:=Nat.mul_le_mul hb hby
   omega) hR (fun v' w' hr hgr _=>hK v' w' (by rw[List.flatten_append];exact hr) hgr)
  ·have hql:q<l.length*k:=by
    rw[<-flatten_len hl5];exact (List.getElem?_eq_some_iff.1 hq).1
   have q1:q / k<l.length:=by rw[Nat.div_lt_iff_lt_mul hk];exact hql
   have q2:q % k<k:=Nat.mod_lt _ hk;have q3:q / k*k+q % k=q:=by rw[Nat.mul_comm];exact Nat.div_add_mod q k
   obtain⟨a',ha,hc⟩:=h5 (q / k) q1 (q % k) q2;cases ha;rw[q3] at hc;rw[hc,<-flatten_get hl5 _ _ q1 q2,q3,hq]
  ·obtain⟨y,hy,huy⟩:=List.mem_flatten.1 hu
   exact (h4 y hy).2 u huy
end
end
section
open Go.RowKit Go.Shelf Go.Sort
theorem Row.some_block {R e sz v n xs W} (h:Row R e sz v n xs W) (hn:0<n):∃g cap,v=.slice (some ⟨g,0,none⟩) n cap:=by
 obtain⟨⟨_,ho⟩,_⟩:=h;rcases ho with⟨rfl,h0⟩|⟨g,cap,cur,rfl,_⟩
 ·omega
 ·exact⟨g,cap,rfl⟩
theorem Row.holds {R:Nat->Prop} {e:TypeId} {n g cap:Nat} {zs:List Int} {W:World} (h:Row R e 1 (.slice (some ⟨g,0,none⟩) n cap) n (zs.map I64) W) (hz:zs.length=n):Sort.Holds (Value.int .i64) W g 0 zs.toArray/\g<W.heap.size/\n<=cap:=by
 obtain⟨⟨hl,ho⟩,hr⟩:=h;rcases ho with⟨h0,_⟩|⟨g',cap',cur,h0,hb,hg,h1,h2,h3,h4⟩
 ·cases h0
 ·cases h0
  refine⟨fun j hj=>⟨?_,by simp[World.frozen?,hg]⟩,(Array.getElem?_eq_some_iff.1 hg).1,h1⟩
  have hj':j<zs.length:=by simpa using hj
  rw[Nat.zero_add,cell_of_row W g j _ _ _ hg];have:=congrArg (fun l=>l[j]?) h4
  simp only[List.getElem?_take,Nat.mul_one,show j<n by omega,if_true,List.getElem?_map,zN hj',Option.map_some] at this
  rw[getElem!_pos zs.toArray j hj];simpa using this
theorem Row.less {R:Nat->Prop} {e:TypeId} {n m g cap:Nat} {xs:List Value} {W:World} (h:Row R e 1 (.slice (some ⟨g,0,none⟩) n cap) n xs W) (hm:m<=n):Row R e 1 (.slice (some ⟨g,0,none⟩) m cap) m (xs.take m) W:=by
 obtain⟨⟨hl,ho⟩,hr⟩:=h;rcases ho with⟨h0,_⟩|⟨g',cap',cur,h0,hb,hg,h1,h2,h3,h4⟩
 ·cases h0
 ·cases h0
  refine⟨⟨by rw[List.length_take];omega,.inr ⟨g,cap,cur,rfl,hb,hg,by omega,h2,h3,?_⟩⟩,fun k hk=>hr k hk⟩
  rw[<-h4,List.take_take];congr 1;omega
end
section
open Go.RowKit Go.Shelf Go.Sort
namespace Rs
open Rc
def types (L:List PRec) (o:List (List UInt8)):List Int:=Lib.compact (((L.filter fun r=>Nm.same r.owner o).map (·.type)).mergeSort fun x y=>decide (x<=y))
end Rs
theorem flatten_one (l:List Value):(l.map fun x=>[x]).flatten=l:=by induction l with
 | nil=>rfl
 | cons x l ih=>simp[ih]
end
section
open Go.RowKit Go.Shelf Go.Sort
namespace Rs
open Rc
def leads (t:Int):Bool:=t == 2 || t == 5 || t == 12 || t == 39 || t == 15
def targets (t:Int) (L:List PRec):List (List (List UInt8)):=if leads t then L.filterMap fun r=>r.names.head? else []
end Rs
theorem encD_one' {w:World} (x:El w):∀u∈encD x,u.oneCell'=true:=fun u hu=>x.2.1.one u (List.mem_of_mem_drop hu)
theorem DatsRd.grd {w:World} {v:Value} {l:List (El w)} {W:World} (h:DatsRd v l W):GRd 5 v (l.map encD) W:=by
 obtain⟨o,cap,h1,h2,h3,h4,h5⟩:=h;refine⟨o,cap,by rw[Zf];exact h1,by rw[Zf];exact h2,h3,h4,fun y hy=>?_,fun i hi c hc=>?_⟩
 ·obtain⟨x,_,rfl⟩:=List.mem_map.1 hy
  exact⟨encD_len x,encD_one' x⟩
 ·rw[Zf] at hi
  have hl:i*5+c<(l.flatMap encD).length:=by rw[flat_len encD 5 encD_len];omega
  obtain⟨a,ha,e⟩:=h5 _ hl;refine⟨a,ha,?_⟩;rw[e,<-zN hl,flat_get encD 5 encD_len l i c hi hc,List.getElem_map]
theorem El.data {w:World} (x:El w):∃us p1 q1 p2 n2 q2 p3 n3 q3 p4 n4 q4,encD x=[.int .i64 x.1.2.type,.slice p1 us.length q1,.slice p2 n2 q2,.slice p3 n3 q3,.slice p4 n4 q4]/\Sl (.slice p1 us.length q1) us w/\us.length=x.1.2.names.length/\(∀i (h:i<us.length) (h':i<x.1.2.names.length),Rd us[i] x.1.2.names[i] w)/\DatRd (encD x) x.1.2 w:=by
 obtain⟨vo,ds,h0,ho,hd⟩:=x.2.1;have he:encD x=ds:=by unfold encD encE;rw[h0];rfl
 have hd0:=hd;obtain⟨vn,vm,vt,vr,rfl,⟨us,u1,u2,u3⟩,h2,h3,h4⟩:=hd;obtain⟨p1,q1,e1,_⟩:=u2.form;obtain⟨p2,q2,e2,_⟩:=h2.form;obtain⟨p3,q3,e3,_⟩:=h3.form;obtain⟨p4,q4,e4,_⟩:=Sl.form h4;subst e1;subst e2;subst e3;subst e4;exact⟨us,p1,q1,p2,_,q2,p3,_,q3,p4,_,q4,he,u2,u1,u3,by rw[he];exact hd0⟩
theorem info_name:(Tryz.prog.info? 38).map (fun i=>(i.zero,i.size,i.bytes))=some (some (.slice none 0 0),1,24):=by kernel_rfl
end
end Go.Proofs.YtgmbefolgppmdaaGreat
