/- Records: a row in order, each once: the walk of rec.few. -/
import Derived.Test.YtgmbefolgppmdaaGreatLRcC
import Derived.Test.YtgmbefolgppmdaaGreatLReg
import Derived.Test.YtgmbefolgppmdaaGreatLAli
namespace Go.Proofs.YtgmbefolgppmdaaGreat
set_option maxRecDepth 100000
section
open Go.RowKit Go.Shelf Go.Sort
abbrev ROut (w:World) (vs:Value):Nat->Prop:=fun g=>w.heap.size<=g/\vs.ownBlock≠some g
theorem rs_kept {w wr wa wz:World} {e:TypeId} {n:Nat} {xs:List Value} {vs vo:Value} (rs:Row (Own w) e 7 vs n xs wr) (hb:Below wr.heap.size wr wa) (hgr:wa.grownBy wz vo.ownBlock) (hro:∀k,vo.ownBlock=some k->ROut w vs k):Row (Own w) e 7 vs n xs wz :=
 rs.kept fun g c t f hv hg=>by
  have hl:=(Array.getElem?_eq_some_iff.1 hg).1;rw[hgr.block g (by have:=hb.size;omega) (fun e=>(hro g e.symm).2 hv),hb.block g hl];exact hg
theorem plE_snoc {w:World} (o:List (El w)) (y:El w):plE (o++[y])=plE o++[y.1.2]:=by simp[plE]
theorem set7 (P:List Value) (n:Nat) (hn:P.length=n) (a0 a1 a2 a3 a4 a5 a6 b0 b1 b2 b3 b4 b5 b6:Value) :
  (((((((P++[a0,a1,a2,a3,a4,a5,a6]).set n b0).set (n+1) b1).set (n+2) b2).set (n+3) b3).set (n+4) b4).set (n+5) b5).set (n+6) b6=P++[b0,b1,b2,b3,b4,b5,b6]:=by
 subst hn;simp only[List.set_append_right _ _ (Zh _),List.set_append_right _ _ (Nat.le_add_right _ _),Nat.sub_self,Nat.add_sub_cancel_left,Zc,Zd]
theorem rs_set {w W:World} {e:TypeId} {n g cap l b o:Nat} {xs:List Value} {u:Value} (rs:Row (Own w) e 7 (.slice (some ⟨g,0,none⟩) l cap) n xs W) (hne:g≠b):Row (Own w) e 7 (.slice (some ⟨g,0,none⟩) l cap) n xs (W.setCell ⟨b,o,none⟩ u) :=
 rs.kept fun g' c t f hv hg=>by
  have h:g=g':=by simpa[Value.ownBlock] using hv
  exact (Below.heap_setCell _ _ _ _ (by show g'≠b;omega)).trans hg
set_option maxHeartbeats 4000000 in
theorem recFew_any {w:World} (v:Value) (l:List (El w)) (hv:RecsRd v (l.map (·.1)) w) (hn:l.length<=1000) :
  Calls Tryz.prog 93 #[v,.func (.func 94) #[] #[],.func (.func 95) #[] #[]] w
   fun e w'=>∃v' l',e=.returned v'/\RecsRd v' ((l':List (El w)).map (·.1)) w'/\plE l'=Rc.canon (plE l)/\l'.length<=l.length/\Below w.heap.size w w'/\(∀g,v'.ownBlock=some g->w.heap.size<=g)/\∀x∈l',∀W,(∀y∈l,RecRd y.1.1 y.1.2 W)->RecRd x.1.1 x.1.2 W:=by
 have HV:=Hd hv;have nz:(l.length:Int)<=1000:=by omega
 have HN:=Hd hn;clear hv hn;refine (zF (n:=0)).1 ?_;refine callsIn_of_wp Tryz.func93 rfl trivial ?_ rfl;simp only[Tryz.ntmps93,Zo,Ze,Zg,Nat.reduceAdd,Nat.reduceSub,Zi,Zj,Zk,Zl,Zm,Zp];gi_wp2_with (gi_at_call 116;refine (callsIn_wide.2 (cloneRec_any _ _ _ HV.out (by have:=HN.out;simp;omega))).mono ?_;rintro e w1 ⟨vs,rfl,r1,b1⟩)
 rw[encP_map,Zf] at r1;have hsort:=sortRecs_any vs l r1 b1 (by have:=HN.out;omega)
 have HSO:=Hd hsort;clear hsort r1 b1;gi_wp2_with (gi_at_call 117;refine (callsIn_wide.2 HSO.out).mono ?_;rintro e w2 ⟨rfl,r2,b2⟩;obtain⟨sa,scap,rfl⟩:=r2.form)
 obtain⟨s,hs⟩:∃s,Srt.srt (ltC (cfE (w:=w))) l=s:=⟨_,rfl⟩;have hsl:s.length=l.length:=by rw[<-hs];exact Srt.srt_len l
 have hcan:=canon_srt l;have HMEM:Hid (∀y∈s,y∈l):=fun y hy=>by rw[<-hs] at hy;exact ((Srt.srt_st (cfE_ord w) l).2.mem (cfE_ord w)).1 hy
 rw[hs] at r2 hcan;have HCAN:=Hd hcan;have HSL:=Hd hsl;clear hcan hs HSO
 gi_loopw [7,18] (fun vo vi wr=>∃(i:Nat) (os:List (El w)),vi=.int .i64 i/\Hid (i<=l.length/\os.length<=i/\plE os=(plE (s.take i)).foldl Rc.addF []/\∀x∈os,∀W,(∀y∈s,RecRd y.1.1 y.1.2 W)->RecRd x.1.1 x.1.2 W)/\Row (ROut w (.slice sa l.length scap)) 110 7 vo os.length (os.flatMap encE) wr/\Row (Own w) 110 7 (.slice sa l.length scap) l.length (s.flatMap encE) wr/\Below w.heap.size w wr) (fun _ vi _=>l.length-(intOf vi).toNat)
 case atStart=>exact⟨0,[],rfl,⟨by omega,by simp,rfl,by simp⟩,Row.nil _ _ _ _,r2,b2⟩
 case round =>
  clear r2 b2;obtain⟨i,os,rfl,HI,ro,rs,hb⟩:=hrel;by_cases hlt:i<l.length
  ·have hltz:(i:Int)<(l.length:Int):=by omega
   have hls:i<s.length:=by rw[HSL.out];exact hlt
   obtain⟨x,hx⟩:=Zq (s[i]);obtain⟨p0,n0,q0,p1,n1,q1,p2,n2,q2,p3,n3,q3,p4,n4,q4,ex⟩:=x.cells;have hx':s[i]? = some x:=by rw[zN hls,hx]
   have HX:=Hd (And.intro hx' ex);obtain⟨g,hg⟩:∃g,sa=some ⟨g,0,none⟩:=by
    obtain⟨⟨_,ho⟩,_⟩:=rs;rcases ho with⟨h0,h1⟩|⟨g,cap,cur,h0,_⟩
    ·omega
    ·cases h0;exact⟨g,rfl⟩
   subst hg;obtain⟨e0,e1,e2,e3,e4,e5,e6⟩:=Row.el (l:=s) (by rw[HSL.out];exact rs) i hls (by rw[hx];exact ex)
   have RS:=Hd rs;have RO:=Hd ro;have HB:=Hd hb;obtain⟨oa,ocap,rfl⟩:=ro.form;have HNX:Hid (plE (s.take (i+1))=plE (s.take i)++[x.1.2]):=by
    show _=_;have:s.take (i+1)=s.take i++[x]:=by rw[List.take_add_one,hx'];rfl
    rw[this];simp[plE]
   have hgl:g<wr.heap.size:=(rs.1.lt g rfl).2;clear hx hx' ex rs ro hb hlt hls;rcases List.eq_nil_or_concat os with rfl|⟨o,y,rfl⟩
   ·gi_wp2_with fail
    refine Z8 [] (fun _=>True) 13 rfl (by kernel_rfl) ?_
    intro w' hw';have hbx:Bx7 wr.heap.size (.slice p0 n0 q0) (.int .u32 x.1.2.ttl) (.int .i64 x.1.2.type) (.slice p1 n1 q1) (.slice p2 n2 q2) (.slice p3 n3 q3) (.slice p4 n4 q4) w':=by
     subst hw';exact Bx7.of (World.alloc_heap_new wr _)
    have hb1:Below wr.heap.size wr w':=by subst hw';exact (Zr).drew
    clear hw';obtain⟨c0,c1,c2,c3,c4,c5,c6⟩:=hbx;refine tB 0 ?_;refine tB 1 ?_;refine tB 2 ?_;simp only[Act.put,Za,Zd,Zc];refine tV 3 ?_;refine tV 4 ?_;refine tV 5 ?_;refine tV 6 ?_;simp only[Act.put,Za,Zd,Zc];refine tV 7 ?_;refine tV 8 ?_;refine tV 9 ?_;simp only[Act.put,Za,Zd,Zc];refine tV 10 ?_;refine tV 11 ?_;simp only[Act.put,Za,Zd,Zc];refine tB 12 ?_;simp only[Act.put,Za,Zd,Zc];refine Z9 (by kernel_rfl) ?_
    have hb2:=Z5 HB.out hb1;have HB2:=Hd hb2;have HB1:=Hd hb1;clear hb1 hb2;have RO2:Hid (Row (ROut w (.slice (some ⟨g,0,none⟩) l.length scap)) 110 7 (.slice oa 0 ocap) 0 [] (w'.alloc (.cells #[.slice p0 n0 q0,.int .u32 x.1.2.ttl,.int .i64 x.1.2.type,.slice p1 n1 q1,.slice p2 n2 q2,.slice p3 n3 q3,.slice p4 n4 q4] 110))):=(Row.below RO.out HB1.out).alloc _;have HRR:Hid (∀k,w'.heap.size<=k->ROut w (.slice (some ⟨g,0,none⟩) l.length scap) k):=fun k hk=>⟨by have:=HB2.out.size;omega,fun e=>absurd (show g=k by simpa[Value.ownBlock] using e) (by have:=HB1.out.size;omega)⟩
    gi_wp2_with (gi_at_builtin;refine append_recs (ROut w (.slice (some ⟨g,0,none⟩) l.length scap)) rfl _ _ _ Tryz.underlying52 rfl _ 0 [] (by rfl) RO2.out _ [x.1] (by rfl) (recs_one x HB2.out HX.out.2) (by simp) (HRR.out _ (by simp)) ?_;intro v' wz hrow hgr)
    have hbz:=(HB2.out.alloc HB2.out.size _).grown hgr (by have:=HB2.out.size;simp;omega) (fun k hk=>(RO.out.2 k hk).1)
    have hrz:=rs_kept RS.out (HB1.out.alloc HB1.out.size _) hgr (fun k hk=>RO.out.2 k hk)
    have hrow':Row (ROut w (.slice (some ⟨g,0,none⟩) l.length scap)) 110 7 v' [x].length ([x].flatMap encE) wz:=by
     rw[<-encP_map];exact hrow
    have HE:=Hd (And.intro hbz (And.intro hrz hrow'));clear hbz hrz hrow hrow' hgr;gi_wp2_with fail
    refine⟨⟨i+1,[x],by go_num,?_,HE.out.2.2,HE.out.2.1,HE.out.1⟩,by simp[intOf];omega⟩
    obtain⟨h1,h2,h3,h4⟩:=HI.out;refine⟨by omega,by simp,by rw[HNX.out,List.foldl_append,<-h3];rfl,fun z hz W hW=>?_⟩
    rw[List.mem_singleton] at hz;subst hz;exact hW _ (List.mem_of_getElem? HX.out.1)
   ·rw[List.concat_eq_append] at HI RO ⊢
    obtain⟨r0,k0,t0,r1,k1,t1,r2,k2,t2,r3,k3,t3,r4,k4,t4,ey⟩:=y.cells;obtain⟨m1,hm1⟩:∃m1,m1=(o++[y]).length:=⟨_,rfl⟩;obtain⟨go,hgo⟩:∃go,oa=some ⟨go,0,none⟩:=by
     obtain⟨⟨_,ho⟩,_⟩:=RO.out;rcases ho with⟨h0,h1⟩|⟨g,cap,cur,h0,_⟩
     ·simp at h1
     ·cases h0;exact⟨g,rfl⟩
    subst hgo;obtain⟨f0,f1,f2,f3,f4,f5,f6⟩:=Row.el RO.out o.length (by simp) (by rw[Zs (Zh _)];simpa using ey)
    obtain⟨m,hm⟩:∃m,m=o.length:=⟨_,rfl⟩;rw[<-hm] at f0 f1 f2 f3 f4 f5 f6;have hmm:m1=m+1:=by rw[hm1,hm];simp
    have HM:=Hd (And.intro hm (And.intro hm1 (And.intro hmm ey)));have hz1:(m1:Int)<=1000:=by have h1:=HI.out;rw[<-hm1] at h1;omega
    have w7:IntKind.i64.wrap ((m1:Int)-1)=(m:Int):=by rw[IntWalk.i64_in _ (by omega)];omega
    have hp1:(0:Int)<(m1:Int):=by omega
    have hp2:decide (0<m1)=true:=zM (by omega)
    have hp3:(m:Int)<(m1:Int):=by omega
    have hgol:go<wr.heap.size:=(RO.out.1.lt go rfl).2;rw[<-hm1];clear hm hm1 hmm ey;gi_wp2_with fail
    refine Z8 [8,9,11,12] (fun w'=>Bx7 wr.heap.size (.slice p0 n0 q0) (.int .u32 x.1.2.ttl) (.int .i64 x.1.2.type) (.slice p1 n1 q1) (.slice p2 n2 q2) (.slice p3 n3 q3) (.slice p4 n4 q4) w'/\w'.cell? ⟨go,m*7,none⟩=some (.slice r0 k0 t0)/\w'.cell? ⟨go,m*7+1,none⟩=some (.int .u32 y.1.2.ttl)/\w'.cell? ⟨go,m*7+2,none⟩=some (.int .i64 y.1.2.type)/\w'.cell? ⟨go,m*7+3,none⟩=some (.slice r1 k1 t1)/\w'.cell? ⟨go,m*7+4,none⟩=some (.slice r2 k2 t2)/\w'.cell? ⟨go,m*7+5,none⟩=some (.slice r3 k3 t3)/\w'.cell? ⟨go,m*7+6,none⟩=some (.slice r4 k4 t4)) 13 rfl (by kernel_rfl) ?_
    intro w' hw';have hb1:Below wr.heap.size wr w':=by subst hw';exact (Zr).drew
    have hy:∀c,w'.cell? ⟨go,c,none⟩=wr.cell? ⟨go,c,none⟩:=fun c=>hb1.cell (p:=⟨go,c,none⟩) hgol
    have hS:Bx7 wr.heap.size (.slice p0 n0 q0) (.int .u32 x.1.2.ttl) (.int .i64 x.1.2.type) (.slice p1 n1 q1) (.slice p2 n2 q2) (.slice p3 n3 q3) (.slice p4 n4 q4) w'/\w'.cell? ⟨go,m*7,none⟩=some (.slice r0 k0 t0)/\w'.cell? ⟨go,m*7+1,none⟩=some (.int .u32 y.1.2.ttl)/\w'.cell? ⟨go,m*7+2,none⟩=some (.int .i64 y.1.2.type)/\w'.cell? ⟨go,m*7+3,none⟩=some (.slice r1 k1 t1)/\w'.cell? ⟨go,m*7+4,none⟩=some (.slice r2 k2 t2)/\w'.cell? ⟨go,m*7+5,none⟩=some (.slice r3 k3 t3)/\w'.cell? ⟨go,m*7+6,none⟩=some (.slice r4 k4 t4):=by
     refine⟨by subst hw';exact Bx7.of (World.alloc_heap_new wr _),?_⟩
     simp only[hy];exact⟨f0,f1,f2,f3,f4,f5,f6⟩
    clear hw' hy f0 f1 f2 f3 f4 f5 f6 e0 e1 e2 e3 e4 e5 e6;have hb2:=Z5 HB.out hb1;refine tB 0 ?_;refine tB 1 ?_;refine tB 2 ?_;refine tB 3 ?_;refine tB 4 ?_;refine tB 5 ?_;refine tB 6 ?_;refine tB 7 ?_;simp only[Act.put,Za,Zd,Zc];refine tH 8 ?qav8 hS (fun w1 ⟨⟨c0,c1,c2,c3,c4,c5,c6⟩,d0,d1,d2,d3,d4,d5,d6⟩=>?qay8) ?_
    case qay8=>go_simp;try rfl
    refine tH 9 ?qav9 hS (fun w1 ⟨⟨c0,c1,c2,c3,c4,c5,c6⟩,d0,d1,d2,d3,d4,d5,d6⟩=>?qay9) ?_
    case qay9=>go_simp;try rfl
    simp only[Act.put,Za,Zd,Zc];obtain⟨z,hz⟩:=Zq (Rc.cmp y.1.2 x.1.2);have HZ:=Hd hz;have HRX:Hid (RecRd [.slice p0 n0 q0,.int .u32 (x.1.2.ttl:Int),.int .i64 x.1.2.type,.slice p1 n1 q1,.slice p2 n2 q2,.slice p3 n3 q3,.slice p4 n4 q4] x.1.2 w):=by have h:=x.2.1;rw[show x.1.1=_ from HX.out.2] at h;exact h
    have HRY:Hid (RecRd [.slice r0 k0 t0,.int .u32 (y.1.2.ttl:Int),.int .i64 y.1.2.type,.slice r1 k1 t1,.slice r2 k2 t2,.slice r3 k3 t3,.slice r4 k4 t4] y.1.2 w):=by have h:=y.2.1;rw[show y.1.1=_ from HM.out.2.2.2] at h;exact h
    clear hz;refine oneH 10 (by rfl) (by kernel_rfl) (fun K hK=>?_)
    gi_wp2_with (gi_at_call 94;refine (callsIn_wide.2 (recCompare_any [.slice r0 k0 t0,.int .u32 (y.1.2.ttl:Int),.int .i64 y.1.2.type,.slice r1 k1 t1,.slice r2 k2 t2,.slice r3 k3 t3,.slice r4 k4 t4] [.slice p0 n0 q0,.int .u32 (x.1.2.ttl:Int),.int .i64 x.1.2.type,.slice p1 n1 q1,.slice p2 n2 q2,.slice p3 n3 q3,.slice p4 n4 q4] y.1.2 x.1.2 _ (HRY.out.below hb2) (HRX.out.below hb2) y.2.2 x.2.2)).mono ?_;rintro e w3 ⟨rfl,b3⟩;rw[HZ.out])
    have hy3:∀c,w3.cell? ⟨go,c,none⟩=w'.cell? ⟨go,c,none⟩:=fun c=>b3.cell (p:=⟨go,c,none⟩) (by have:=hb1.size;show go<_;omega)
    replace hS:=And.intro (hS.1.below b3) hS.2;simp only[<-hy3] at hS;have hb3:=Z5 hb2 b3;have hbr:=Z5 hb1 b3;clear hy3 hb1 hb2 b3;refine hK _ _ (fun _=>hS) ?_
    clear hK K;have HB3:=Hd hb3;have HBR:=Hd hbr;have RO3:Hid (Row (ROut w (.slice (some ⟨g,0,none⟩) l.length scap)) 110 7 (.slice (some ⟨go,0,none⟩) m1 ocap) m1 ((o++[y]).flatMap encE) w3):=by
     have h:=Row.below RO.out HBR.out;rw[<-HM.out.2.1] at h;exact h
    have HRR:Hid (∀k,w3.heap.size<=k->ROut w (.slice (some ⟨g,0,none⟩) l.length scap) k):=fun k hk=>⟨by have:=HB3.out.size;omega,fun e=>absurd (show g=k by simpa[Value.ownBlock] using e) (by have:=HBR.out.size;omega)⟩
    clear hb3 hbr;by_cases h0:z=0
    ·subst h0
     refine tH 11 ?qev11 hS (fun w1 ⟨⟨c0,c1,c2,c3,c4,c5,c6⟩,d0,d1,d2,d3,d4,d5,d6⟩=>?qey11) ?_
     case qey11=>go_simp;try rfl
     refine tH 12 ?qev12 hS (fun w1 ⟨⟨c0,c1,c2,c3,c4,c5,c6⟩,d0,d1,d2,d3,d4,d5,d6⟩=>?qey12) ?_
     case qey12=>go_simp;try rfl
     simp only[Act.put,Za,Zd,Zc];refine Z9 (by kernel_rfl) ?_
     gi_wp2_with fail
     refine Z8 [8,9] (fun w'=>Bx7 wr.heap.size (.slice p0 n0 q0) (.int .u32 x.1.2.ttl) (.int .i64 x.1.2.type) (.slice p1 n1 q1) (.slice p2 n2 q2) (.slice p3 n3 q3) (.slice p4 n4 q4) w'/\w'.cell? ⟨go,m*7,none⟩=some (.slice r0 k0 t0)/\w'.cell? ⟨go,m*7+1,none⟩=some (.int .u32 y.1.2.ttl)/\w'.cell? ⟨go,m*7+2,none⟩=some (.int .i64 y.1.2.type)/\w'.cell? ⟨go,m*7+3,none⟩=some (.slice r1 k1 t1)/\w'.cell? ⟨go,m*7+4,none⟩=some (.slice r2 k2 t2)/\w'.cell? ⟨go,m*7+5,none⟩=some (.slice r3 k3 t3)/\w'.cell? ⟨go,m*7+6,none⟩=some (.slice r4 k4 t4)) 13 rfl (by kernel_rfl) ?_
     intro w4 hw4;replace hS:Bx7 wr.heap.size (.slice p0 n0 q0) (.int .u32 x.1.2.ttl) (.int .i64 x.1.2.type) (.slice p1 n1 q1) (.slice p2 n2 q2) (.slice p3 n3 q3) (.slice p4 n4 q4) w4/\w4.cell? ⟨go,m*7,none⟩=some (.slice r0 k0 t0)/\w4.cell? ⟨go,m*7+1,none⟩=some (.int .u32 y.1.2.ttl)/\w4.cell? ⟨go,m*7+2,none⟩=some (.int .i64 y.1.2.type)/\w4.cell? ⟨go,m*7+3,none⟩=some (.slice r1 k1 t1)/\w4.cell? ⟨go,m*7+4,none⟩=some (.slice r2 k2 t2)/\w4.cell? ⟨go,m*7+5,none⟩=some (.slice r3 k3 t3)/\w4.cell? ⟨go,m*7+6,none⟩=some (.slice r4 k4 t4):=by subst hw4;exact hS
     have hb4:Below w3.heap.size w3 w4:=by subst hw4;exact (Below.refl _ _).drew
     clear hw4;refine tB 0 ?_;refine tB 1 ?_;refine tB 2 ?_;refine tB 3 ?_;refine tB 4 ?_;refine tB 5 ?_;refine tB 6 ?_;refine tB 7 ?_;simp only[Act.put,Za,Zd,Zc];refine tH 8 ?qcv8 hS (fun w1 ⟨⟨c0,c1,c2,c3,c4,c5,c6⟩,d0,d1,d2,d3,d4,d5,d6⟩=>?qcy8) ?_
     case qcy8=>go_simp;try rfl
     refine tH 9 ?qcv9 hS (fun w1 ⟨⟨c0,c1,c2,c3,c4,c5,c6⟩,d0,d1,d2,d3,d4,d5,d6⟩=>?qcy9) ?_
     case qcy9=>go_simp;try rfl
     simp only[Act.put,Za,Zd,Zc];refine oneH 10 (by rfl) (by kernel_rfl) (fun K hK=>?_)
     gi_wp2_with (gi_at_call 95;refine (callsIn_wide.2 (join_any [.slice r0 k0 t0,.int .u32 (y.1.2.ttl:Int),.int .i64 y.1.2.type,.slice r1 k1 t1,.slice r2 k2 t2,.slice r3 k3 t3,.slice r4 k4 t4] [.slice p0 n0 q0,.int .u32 (x.1.2.ttl:Int),.int .i64 x.1.2.type,.slice p1 n1 q1,.slice p2 n2 q2,.slice p3 n3 q3,.slice p4 n4 q4] y.1.2 x.1.2 w _ HRY.out HRX.out)).mono ?_;rintro e w5 ⟨rfl,b5⟩;rw[show jC [.slice r0 k0 t0,.int .u32 (y.1.2.ttl:Int),.int .i64 y.1.2.type,.slice r1 k1 t1,.slice r2 k2 t2,.slice r3 k3 t3,.slice r4 k4 t4] [.slice p0 n0 q0,.int .u32 (x.1.2.ttl:Int),.int .i64 x.1.2.type,.slice p1 n1 q1,.slice p2 n2 q2,.slice p3 n3 q3,.slice p4 n4 q4]=[.slice r0 k0 t0,.int .u32 (min (y.1.2.ttl:Int) x.1.2.ttl),.int .i64 y.1.2.type,.slice r1 k1 t1,.slice r2 k2 t2,.slice r3 k3 t3,.slice r4 k4 t4] from rfl])
     refine hK _ _ (fun h=>absurd h (by decide)) ?_
     clear hK K;have hb5:=Z5 hb4 b5;have RO5:Hid (Row (ROut w (.slice (some ⟨g,0,none⟩) l.length scap)) 110 7 (.slice (some ⟨go,0,none⟩) m1 ocap) m1 ((o++[y]).flatMap encE) w5):=Row.below RO3.out hb5;have HB5:=Hd (Z5 HB3.out hb5);have HBR5:=Hd (Z5 HBR.out hb5);obtain⟨g0,g1,g2,g3,g4,g5,g6⟩:=hS.2;have hy5:∀c,w5.cell? ⟨go,c,none⟩=w4.cell? ⟨go,c,none⟩:=fun c=>b5.cell (p:=⟨go,c,none⟩) (by have:=HBR.out.size;have:=hb4.size;show go<_;omega)
     simp only[<-hy5] at g0 g1 g2 g3 g4 g5 g6;have hfz:∀c,w5.frozen? ⟨go,c,none⟩=false:=by
      obtain⟨⟨_,ho⟩,_⟩:=RO5.out;rcases ho with⟨h0,_⟩|⟨g',cap',cur,h0,_,hg,_⟩
      ·cases h0
      ·cases h0;intro c;simp[World.frozen?,hg]
     have u0:=hfz (m*7);have u1:=hfz (m*7+1);have u2:=hfz (m*7+2);have u3:=hfz (m*7+3);have u4:=hfz (m*7+4);have u5:=hfz (m*7+5);have u6:=hfz (m*7+6);clear hy5 hS hb4 b5 hb5 hfz;refine tB 11 ?_;refine oneH 12 (by rfl) (by kernel_rfl) (fun K hK=>?_)
     gi_wp2_with fail
     have hgo:w.heap.size<=go/\g≠go:=by
      have h:=RO.out.2 go rfl;exact⟨h.1,fun e=>h.2 (by rw[e];rfl)⟩
     have hej:encE (joinE y x)=[.slice r0 k0 t0,.int .u32 (min (y.1.2.ttl:Int) x.1.2.ttl),.int .i64 y.1.2.type,.slice r1 k1 t1,.slice r2 k2 t2,.slice r3 k3 t3,.slice r4 k4 t4]:=by
      show jC y.1.1 x.1.1=_;rw[show y.1.1=_ from HM.out.2.2.2,show x.1.1=_ from HX.out.2];rfl
     have hfl:(o++[y]).flatMap encE=o.flatMap encE++[.slice r0 k0 t0,.int .u32 (y.1.2.ttl:Int),.int .i64 y.1.2.type,.slice r1 k1 t1,.slice r2 k2 t2,.slice r3 k3 t3,.slice r4 k4 t4]:=by
      rw[List.flatMap_append,List.flatMap_cons,List.flatMap_nil,List.append_nil,HM.out.2.2.2]
     have hfj:(o++[joinE y x]).flatMap encE=o.flatMap encE++[.slice r0 k0 t0,.int .u32 (min (y.1.2.ttl:Int) x.1.2.ttl),.int .i64 y.1.2.type,.slice r1 k1 t1,.slice r2 k2 t2,.slice r3 k3 t3,.slice r4 k4 t4]:=by
      rw[List.flatMap_append,List.flatMap_cons,List.flatMap_nil,List.append_nil,hej]
     have hfn:(o.flatMap (encE (w:=w))).length=m*7:=by rw[flat_len encE 7 encE_len,<-HM.out.1]
     have hro:=RO5.out;rw[hfl] at hro;have hro7:=((((((hro.set1 (m*7) (.slice r0 k0 t0)).set1 (m*7+1) (.int .u32 (min (y.1.2.ttl:Int) x.1.2.ttl))).set1 (m*7+2) (.int .i64 y.1.2.type)).set1 (m*7+3) (.slice r1 k1 t1)).set1 (m*7+4) (.slice r2 k2 t2)).set1 (m*7+5) (.slice r3 k3 t3)).set1 (m*7+6) (.slice r4 k4 t4);rw[set7 _ _ hfn,<-hfj] at hro7;have hrs7:Row (Own w) 110 7 (.slice (some ⟨g,0,none⟩) l.length scap) l.length (s.flatMap encE) (((((((w5.setCell ⟨go,m*7,none⟩ (.slice r0 k0 t0)).setCell ⟨go,m*7+1,none⟩ (.int .u32 (min (y.1.2.ttl:Int) x.1.2.ttl))).setCell ⟨go,m*7+2,none⟩ (.int .i64 y.1.2.type)).setCell ⟨go,m*7+3,none⟩ (.slice r1 k1 t1)).setCell ⟨go,m*7+4,none⟩ (.slice r2 k2 t2)).setCell ⟨go,m*7+5,none⟩ (.slice r3 k3 t3)).setCell ⟨go,m*7+6,none⟩ (.slice r4 k4 t4)):=rs_set (rs_set (rs_set (rs_set (rs_set (rs_set (rs_set (Row.below RS.out HBR5.out) hgo.2) hgo.2) hgo.2) hgo.2) hgo.2) hgo.2) hgo.2;have hb7:Below w.heap.size w (((((((w5.setCell ⟨go,m*7,none⟩ (.slice r0 k0 t0)).setCell ⟨go,m*7+1,none⟩ (.int .u32 (min (y.1.2.ttl:Int) x.1.2.ttl))).setCell ⟨go,m*7+2,none⟩ (.int .i64 y.1.2.type)).setCell ⟨go,m*7+3,none⟩ (.slice r1 k1 t1)).setCell ⟨go,m*7+4,none⟩ (.slice r2 k2 t2)).setCell ⟨go,m*7+5,none⟩ (.slice r3 k3 t3)).setCell ⟨go,m*7+6,none⟩ (.slice r4 k4 t4)):=((((((HB5.out.setCell hgo.1 _).setCell hgo.1 _).setCell hgo.1 _).setCell hgo.1 _).setCell hgo.1 _).setCell hgo.1 _).setCell hgo.1 _;have HE:=Hd (And.intro hb7 (And.intro hrs7 hro7));clear hro hro7 hrs7 hb7 hfl hfj hej hfn;generalize (((((((w5.setCell ⟨go,m*7,none⟩ (.slice r0 k0 t0)).setCell ⟨go,m*7+1,none⟩ (.int .u32 (min (y.1.2.ttl:Int) x.1.2.ttl))).setCell ⟨go,m*7+2,none⟩ (.int .i64 y.1.2.type)).setCell ⟨go,m*7+3,none⟩ (.slice r1 k1 t1)).setCell ⟨go,m*7+4,none⟩ (.slice r2 k2 t2)).setCell ⟨go,m*7+5,none⟩ (.slice r3 k3 t3)).setCell ⟨go,m*7+6,none⟩ (.slice r4 k4 t4))=wz at HE ⊢
     refine hK _ _ (fun h=>absurd h (by decide)) ?_
     clear hK K g0 g1 g2 g3 g4 g5 g6 u0 u1 u2 u3 u4 u5 u6;refine Z9 (by kernel_rfl) ?_
     gi_wp2_with fail
     have hlen:(o++[joinE y x]).length=m1:=by rw[HM.out.2.2.1,HM.out.1];simp
     refine⟨⟨i+1,o++[joinE y x],by go_num,?_,by rw[hlen];exact HE.out.2.2,HE.out.2.1,HE.out.1⟩,by simp[intOf];omega⟩
     obtain⟨h1,h2,h3,h4⟩:=HI.out;refine⟨by omega,by rw[hlen,HM.out.2.1];omega,?_,fun z hz W hW=>(List.mem_append.1 hz).elim (fun hz=>h4 z (List.mem_append_left _ hz) W hW) (fun hz=>by rw[List.mem_singleton] at hz;subst hz;exact (h4 y (by simp) W hW).join (hW _ (List.mem_of_getElem? HX.out.1)))⟩
     rw[HNX.out,List.foldl_append,<-h3,plE_snoc o (joinE y x),plE_snoc o y];exact (addF_join _ _ _ HZ.out).symm
    ·have hz1:(z == 0)=false:=by simpa using h0
     have HNZ:=Hd h0;clear h0;refine tH 11 ?qbv11 hS (fun w1 ⟨⟨c0,c1,c2,c3,c4,c5,c6⟩,d0,d1,d2,d3,d4,d5,d6⟩=>?qby11) ?_
     case qby11=>go_simp;try rfl
     refine tH 12 ?qbv12 hS (fun w1 ⟨⟨c0,c1,c2,c3,c4,c5,c6⟩,d0,d1,d2,d3,d4,d5,d6⟩=>?qby12) ?_
     case qby12=>go_simp;try rfl
     simp only[Act.put,Za,Zd,Zc];refine Z9 (by kernel_rfl) ?_
     obtain⟨⟨c0,c1,c2,c3,c4,c5,c6⟩,_⟩:=hS;gi_wp2_with (gi_at_builtin;refine append_recs (ROut w (.slice (some ⟨g,0,none⟩) l.length scap)) rfl _ _ _ Tryz.underlying52 rfl _ m1 _ (by rfl) (RO3.out.alloc _) _ [x.1] (by rfl) (recs_one x HB3.out HX.out.2) (by have h1:=HI.out;have h2:=HM.out;simp only[Ze,Zg];omega) (HRR.out _ (by simp)) ?_;intro v' wz hrow hgr)
     have hbz:=(HB3.out.alloc HB3.out.size _).grown hgr (by have:=HB3.out.size;simp;omega) (fun k hk=>(RO.out.2 k hk).1)
     have hrz:=rs_kept RS.out (HBR.out.alloc HBR.out.size _) hgr (fun k hk=>RO.out.2 k hk)
     have hrow':Row (ROut w (.slice (some ⟨g,0,none⟩) l.length scap)) 110 7 v' ((o++[y])++[x]).length (((o++[y])++[x]).flatMap encE) wz:=by
      rw[List.flatMap_append,show [x].flatMap encE=encP [x.1] from (encP_map [x]).symm,Zb,<-HM.out.2.1];exact hrow
     have HE:=Hd (And.intro hbz (And.intro hrz hrow'));clear hbz hrz hrow hrow' hgr;gi_wp2_with fail
     refine⟨⟨i+1,(o++[y])++[x],by go_num,?_,HE.out.2.2,HE.out.2.1,HE.out.1⟩,by simp[intOf];omega⟩
     obtain⟨h1,h2,h3,h4⟩:=HI.out;refine⟨by omega,by rw[Zb];simp only[Ze,Zg];omega,?_,fun z hz W hW=>(List.mem_append.1 hz).elim (fun hz=>h4 z hz W hW) (fun hz=>by rw[List.mem_singleton] at hz;subst hz;exact hW _ (List.mem_of_getElem? HX.out.1))⟩
     rw[HNX.out,List.foldl_append,<-h3,plE_snoc (o++[y]) x,plE_snoc o y];exact (addF_more _ _ _ (by rw[HZ.out];exact HNZ.out)).symm
  ·have hltz:¬((i:Int)<(l.length:Int)):=by omega
   have HF:Hid (plE os=Rc.canon (plE l)/\os.length<=l.length/\∀x∈os,∀W,(∀y∈l,RecRd y.1.1 y.1.2 W)->RecRd x.1.1 x.1.2 W):=by
    obtain⟨h1,h2,h3,h4⟩:=HI.out;have:i=s.length:=by have:=HSL.out;omega
    refine⟨?_,by omega,fun x hx W hW=>h4 x hx W (fun y hy=>hW y (HMEM.out y hy))⟩
    rw[h3,HCAN.out,this,List.take_length,Rc.few_foldl]
   have ROW:=Hd ro;have RO:=Hd (ro.recs hb);have HB:=Hd hb;have ho:os.length<=1000:=by have:=HI.out;omega
   clear ro rs hb hlt;gi_wp2_with (gi_at_call 118;refine (callsIn_wide.2 (clipRec_any _ _ _ RO.out (by simp;omega))).mono ?_;rintro e w3 ⟨vc,rfl,rc,rfl,hvc⟩)
   go_ret
   exact⟨_,os,rfl,rc,HF.out.1,HF.out.2.1,HB.out,fun g hg=>(ROW.out.2 g (by rw[<-hvc];exact hg)).1,HF.out.2.2⟩
set_option maxHeartbeats 1000000 in
theorem canon_any {w:World} (v:Value) (l:List (El w)) (hv:RecsRd v (l.map (·.1)) w) (hn:l.length<=1000) :
  Calls Tryz.prog 67 #[v] w
   fun e w'=>∃v' l',e=.returned v'/\RecsRd v' ((l':List (El w)).map (·.1)) w'/\plE l'=Rc.canon (plE l)/\l'.length<=l.length/\Below w.heap.size w w'/\(∀g,v'.ownBlock=some g->w.heap.size<=g)/\∀x∈l',∀W,(∀y∈l,RecRd y.1.1 y.1.2 W)->RecRd x.1.1 x.1.2 W:=by
 have HC:=Hd (recFew_any v l hv hn);clear hv
 go_enter Tryz.func67,Tryz.ntmps67
 go_wp2_with fail
 refine HC.out.mono ?_;rintro e w1 ⟨v',l',rfl,h1,h2,h3,h4,h5⟩;have HH:=Hd (And.intro h1 (And.intro h2 (And.intro h3 (And.intro h4 h5))));clear h1 h2 h3 h4 h5;go_wp2_with fail
 go_ret
 exact⟨_,l',rfl,HH.out.1,HH.out.2.1,HH.out.2.2.1,HH.out.2.2.2.1,HH.out.2.2.2.2⟩
end
section
open Go.RowKit Go.Shelf Go.Sort
namespace Rc
def same1 (a b:PRec):Bool:=(a.ttl == b.ttl)&&(cmp a b == 0)
def sameRow:List PRec->List PRec->Bool
 | [],[]=>true
 | x::a,y::b=>same1 x y&&sameRow a b
 | _,_=>false
end Rc
theorem addr7 (a:Addr) (j c:Nat) (hc:0<c):a.add (j+c)=⟨(a.add j).block,(a.add j).off+c,none⟩:=by
 unfold Addr.add;rw[if_neg (by omega)]
 split
 ·rename_i h;subst h;simp
 ·simp[Nat.add_assoc]
theorem RecsRd.el {w:World} {o:Option Addr} {n cap:Nat} {l:List (El w)} {W:World} (h:RecsRd (.slice o n cap) (l.map (·.1)) W):∀W',Below W.heap.size W W'->∀(i:Nat) (hi:i<l.length) (c0 c1 c2 c3 c4 c5 c6:Value),encE l[i]=[c0,c1,c2,c3,c4,c5,c6]->∃a,o=some a /\
  W'.cell? (a.add (i*7))=some c0/\W'.cell? ⟨(a.add (i*7)).block,(a.add (i*7)).off+1,none⟩=some c1/\W'.cell? ⟨(a.add (i*7)).block,(a.add (i*7)).off+2,none⟩=some c2/\W'.cell? ⟨(a.add (i*7)).block,(a.add (i*7)).off+3,none⟩=some c3/\W'.cell? ⟨(a.add (i*7)).block,(a.add (i*7)).off+4,none⟩=some c4/\W'.cell? ⟨(a.add (i*7)).block,(a.add (i*7)).off+5,none⟩=some c5/\W'.cell? ⟨(a.add (i*7)).block,(a.add (i*7)).off+6,none⟩=some c6:=by
 intro W' hb i hi c0 c1 c2 c3 c4 c5 c6 hx;obtain⟨_,o',cap',h1,h2,h3,h4,h5⟩:=h.kept hb;cases h1;have hk:∀c,c<7->∃a,o=some a/\W'.cell? (a.add (i*7+c))=(encE l[i])[c]?:=fun c hc=>by
  have hl:i*7+c<(encP (l.map (·.1))).length:=by rw[encP_map,flat_len encE 7 encE_len];omega
  obtain⟨a,ha,hcell⟩:=h5 _ hl;refine⟨a,ha,?_⟩;rw[hcell,<-flat7 l i hi c hc,<-encP_map,zN hl]
 obtain⟨a,ha,k0⟩:=hk 0 (by omega)
 have hk':∀c,c<7->W'.cell? (a.add (i*7+c))=(encE l[i])[c]?:=fun c hc=>by
  obtain⟨a',ha',h⟩:=hk c hc;rw[ha] at ha';cases ha';exact h
 rw[hx] at hk';exact⟨a,ha,hk' 0 (by omega),by rw[<-addr7 a _ 1 (by omega)];exact hk' 1 (by omega),by rw[<-addr7 a _ 2 (by omega)];exact hk' 2 (by omega),by rw[<-addr7 a _ 3 (by omega)];exact hk' 3 (by omega),by rw[<-addr7 a _ 4 (by omega)];exact hk' 4 (by omega),by rw[<-addr7 a _ 5 (by omega)];exact hk' 5 (by omega),by rw[<-addr7 a _ 6 (by omega)];exact hk' 6 (by omega)⟩
structure Rc.SameAt (a b:List Rc.PRec) (k:Nat):Prop where
 la:k<=a.length
 eq:Rc.sameRow a b=Rc.sameRow (a.drop k) (b.drop k)
end
section
open Go.RowKit Go.Shelf
namespace Rc
theorem orI_zero {x y:Int}:orI x y=0 ↔ x=0/\y=0:=by
 unfold orI;split<;>constructor<;>intro h<;>omega
theorem cmp_owner {a b:PRec} (h:cmp a b=0):Nm.fold a.owner=Nm.fold b.owner:=by
 have:=(orI_zero.1 h).1
 have h2:=Nm.cmp_zero a.owner b.owner;rw[this] at h2;exact eq_of_beq h2.symm
theorem sgn_zero {a b:Int} (h:Nm.sgn a b=0):a=b:=by
 unfold Nm.sgn at h;split at h
 ·omega
 ·split at h<;>omega
theorem cmp_type {a b:PRec} (h:cmp a b=0):a.type=b.type:=sgn_zero (orI_zero.1 (orI_zero.1 h).2).1
def Strict (l:List PRec):Prop:=l.Pairwise fun a b=>cmp a b<0
theorem put_mem {x z:PRec}:∀{L:List PRec},z∈put x L->z∈L\/(cmp z x=0/\z.ttl=x.ttl)
 | [],h=>by
  simp only[put,List.mem_singleton] at h;subst h;exact .inr ⟨cmp_cm.refl _,rfl⟩
 | y::L,h=>by
  unfold put at h;split at h
  ·rcases List.mem_cons.1 h with rfl|h
   ·exact .inl Zu
   ·rcases put_mem h with h|h
    ·exact .inl (Zv _ h)
    ·exact .inr h
  ·split at h
   ·rename_i h0
    rcases List.mem_cons.1 h with rfl|h
    ·split
     ·exact .inr ⟨h0,rfl⟩
     ·exact .inl Zu
    ·exact .inl (Zv _ h)
   ·rcases List.mem_cons.1 h with rfl|h
    ·exact .inr ⟨cmp_cm.refl _,rfl⟩
    ·exact .inl h
theorem put_has (x:PRec):∀L:List PRec,∃z∈put x L,cmp z x=0/\z.ttl<=x.ttl
 | []=>⟨x,by simp[put],cmp_cm.refl _,Zh _⟩
 | y::L=>by
  unfold put;split
  ·obtain⟨z,h1,h2⟩:=put_has x L
   exact⟨z,Zv _ h1,h2⟩
  ·split
   ·rename_i h0
    refine⟨_,Zu,?_,?_⟩
    ·split
     ·exact h0
     ·exact h0
    ·split
     ·exact Zh _
     ·omega
   ·exact⟨x,Zu,cmp_cm.refl _,Zh _⟩
theorem put_keeps (x:PRec):∀{L:List PRec} {y:PRec},y∈L->∃z∈put x L,cmp z y=0/\z.ttl<=y.ttl
 | c::L,y,h=>by
  unfold put;split
  ·rcases List.mem_cons.1 h with rfl|h
   ·exact⟨y,Zu,cmp_cm.refl _,Zh _⟩
   ·obtain⟨z,h1,h2⟩:=put_keeps x h
    exact⟨z,Zv _ h1,h2⟩
  ·split
   ·rcases List.mem_cons.1 h with rfl|h
    ·refine⟨_,Zu,?_,?_⟩
     ·split
      ·exact cmp_cm.refl y
      ·exact cmp_cm.refl y
     ·split
      ·show x.ttl<=y.ttl;omega
      ·exact Zh _
    ·exact⟨y,Zv _ h,cmp_cm.refl _,Zh _⟩
   ·exact⟨y,Zv _ h,cmp_cm.refl _,Zh _⟩
theorem put_strict (x:PRec):∀{L:List PRec},Strict L->Strict (put x L)
 | [],_=>List.pairwise_singleton _ _
 | y::L,h=>by
  have h':=List.pairwise_cons.1 h;unfold put;split
  ·rename_i hl
   refine List.pairwise_cons.2 ⟨fun z hz=>?_,put_strict x h'.2⟩
   rcases put_mem hz with hz|⟨hz,_⟩
   ·exact h'.1 z hz
   ·have:=cmp_cm.anti z x
    exact cmp_cm.lt_le hl (by omega)
  ·split
   ·refine List.pairwise_cons.2 ⟨fun z hz=>?_,h'.2⟩
    have:=h'.1 z hz
    split
    ·exact this
    ·exact this
   ·have ha:=cmp_cm.anti x y
    refine List.pairwise_cons.2 ⟨fun z hz=>?_,h⟩
    rcases List.mem_cons.1 hz with rfl|hz
    ·omega
    ·exact cmp_cm.lt_le (b:=y) (by omega) (by have:=h'.1 z hz;omega)
structure Of (c l:List PRec):Prop where
 strict:Strict c
 some:∀x∈c,∃y∈l,cmp x y=0/\x.ttl=y.ttl
 all:∀y∈l,∃x∈c,cmp x y=0/\x.ttl<=y.ttl
theorem Of.nil:Of [] []:=⟨List.Pairwise.nil,by simp,by simp⟩
theorem Of.put {c l:List PRec} (h:Of c l) (x:PRec):Of (put x c) (l++[x]):=by
 refine⟨put_strict x h.strict,fun z hz=>?_,fun y hy=>?_⟩
 ·rcases put_mem hz with hz|hz
  ·obtain⟨y,hy,k⟩:=h.some z hz
   exact⟨y,List.mem_append_left _ hy,k⟩
  ·exact⟨x,by simp,hz⟩
 ·rcases List.mem_append.1 hy with hy|hy
  ·obtain⟨z,hz,k1,k2⟩:=h.all y hy
   obtain⟨u,hu,k3,k4⟩:=put_keeps x hz;exact⟨u,hu,cmp_cm.zero k3 k1,by omega⟩
  ·rw[List.mem_singleton] at hy;subst hy
   exact put_has y c
theorem canon_of (l:List PRec):Of (canon l) l:=by
 rw[canon_eq]
 suffices H:∀n (l:List PRec),l.length=n->Of (refCanon l) l from H _ l rfl
 intro n
 induction n with
 | zero=>intro l hl;obtain rfl:=List.length_eq_zero_iff.1 hl;exact Of.nil
 | succ n ih =>
  intro l hl;obtain⟨l',x,rfl⟩:∃l' x,l=l'++[x]:=by
   rcases List.eq_nil_or_concat l with h|⟨l',x,h⟩
   ·rw[h] at hl;simp at hl
   ·exact⟨l',x,by rw[h,List.concat_eq_append]⟩
  rw[refCanon_snoc];exact (ih l' (by simpa using hl)).put x
theorem Strict.one:∀{L:List PRec},Strict L->∀{x y:PRec},x∈L->y∈L->cmp x y=0->x=y
 | c::L,h,x,y,hx,hy,e=>by
  have h':=List.pairwise_cons.1 h;rcases List.mem_cons.1 hx with h1|h1<;>rcases List.mem_cons.1 hy with h2|h2
  ·rw[h1,h2]
  ·have:=h'.1 y h2;rw[h1] at e;omega
  ·have:=h'.1 x h1;have:=cmp_cm.anti x y;rw[h2] at e this;omega
  ·exact Strict.one h'.2 h1 h2 e
theorem same1_iff {a b:PRec}:same1 a b=true ↔ a.ttl=b.ttl/\cmp a b=0:=by simp[same1]
theorem sameRow_of:∀{a b:List PRec},Strict a->Strict b->(∀x∈a,∃y∈b,cmp x y=0/\x.ttl=y.ttl)->(∀y∈b,∃x∈a,cmp x y=0)->sameRow a b=true
 | [],[],_,_,_,_=>rfl
 | [],y::b,_,_,_,h=>by obtain⟨x,hx,_⟩:=h y Zu;cases hx
 | x::a,[],_,_,h,_=>by obtain⟨x,hx,_⟩:=h x Zu;cases hx
 | x::a,y::b,ha,hb,h1,h2=>by
  have ha':=List.pairwise_cons.1 ha;have hb':=List.pairwise_cons.1 hb;have hxy:cmp x y=0:=by
   obtain⟨u,hu,k,_⟩:=h1 x Zu;obtain⟨v,hv,k'⟩:=h2 y Zu;rcases List.mem_cons.1 hu with rfl|hu
   ·exact k
   ·rcases List.mem_cons.1 hv with rfl|hv
    ·exact k'
    ·exfalso
     have e1:=hb'.1 u hu;have e2:=ha'.1 v hv;have a1:=cmp_cm.anti x u;have e3:=cmp_cm.lt_le (a:=y) (b:=u) (c:=x) e1 (by omega)
     have e4:=cmp_cm.lt_le (a:=y) (b:=x) (c:=v) e3 (by omega)
     have:=cmp_cm.anti v y
     omega
  have ht:x.ttl=y.ttl:=by
   obtain⟨u,hu,k,k2⟩:=h1 x Zu;have:u=y:=Strict.one hb hu Zu (by
    have:=cmp_cm.anti x u
    exact cmp_cm.zero (b:=x) (by omega) hxy)
   rw[<-this];exact k2
  rw[sameRow,same1_iff.2 ⟨ht,hxy⟩,Bool.true_and];refine sameRow_of ha'.2 hb'.2 (fun z hz=>?_) (fun z hz=>?_)
  ·obtain⟨u,hu,k,k2⟩:=h1 z (Zv _ hz)
   rcases List.mem_cons.1 hu with rfl|hu
   ·exfalso
    have e1:=ha'.1 z hz;have:=cmp_cm.anti z u
    have:=cmp_cm.zero (a:=x) (b:=u) (c:=z) hxy (by omega)
    omega
   ·exact⟨u,hu,k,k2⟩
  ·obtain⟨u,hu,k⟩:=h2 z (Zv _ hz)
   rcases List.mem_cons.1 hu with rfl|hu
   ·exfalso
    have e1:=hb'.1 z hz;have:=cmp_cm.anti u y
    have:=cmp_cm.zero (a:=y) (b:=u) (c:=z) (by omega) k
    omega
   ·exact⟨u,hu,k⟩
theorem Of.same {a b l m:List PRec} (h:Of a l) (k:Of b m) (h1:∀y∈l,∃z∈m,cmp z y=0/\z.ttl<=y.ttl) (h2:∀y∈m,∃z∈l,cmp z y=0/\z.ttl<=y.ttl):sameRow a b=true:=by
 have one:∀{a b l m:List PRec},Of a l->Of b m->(∀y∈l,∃z∈m,cmp z y=0/\z.ttl<=y.ttl)->∀x∈a,∃y∈b,cmp x y=0/\y.ttl<=x.ttl:=by
  intro a b l m h k h1 x hx;obtain⟨y,hy,e1,e2⟩:=h.some x hx;obtain⟨z,hz,e3,e4⟩:=h1 y hy;obtain⟨u,hu,e5,e6⟩:=k.all z hz;refine⟨u,hu,?_,by omega⟩
  have a1:=cmp_cm.anti z y;have a2:=cmp_cm.anti u z;exact cmp_cm.zero e1 (cmp_cm.zero (b:=z) (by omega) (by omega))
 refine sameRow_of h.strict k.strict (fun x hx=>?_) (fun y hy=>?_)
 ·obtain⟨y,hy,e1,e2⟩:=one h k h1 x hx
  obtain⟨x',hx',e3,e4⟩:=one k h h2 y hy;have:x=x':=Strict.one h.strict hx hx' (cmp_cm.zero e1 e3)
  subst this;exact⟨y,hy,e1,by omega⟩
 ·obtain⟨x,hx,e1,_⟩:=one k h h2 y hy
  have:=cmp_cm.anti x y
  exact⟨x,hx,by omega⟩
theorem Of.self {l:List PRec} (h:Strict l):Of l l:=⟨h,fun x hx=>⟨x,hx,cmp_cm.refl _,rfl⟩,fun x hx=>⟨x,hx,cmp_cm.refl _,Zh _⟩⟩
end Rc
end
section
open Go.RowKit Go.Shelf
namespace Zn
abbrev Nam:=List (List UInt8)
open Rc
def has (L:List PRec) (n:Nam) (t:Int):Bool:=L.any fun r=>(r.type == t)&&Nm.same r.owner n
def cutF (ol:Nat) (L:List PRec) (n:Nam):Nat->Option Nat
 | 0=>none
 | k+1=>if ol<(n.drop k).length&&has L (n.drop k) 2 then some k else cutF ol L n k
def cutAt (o:Nam) (L:List PRec) (n:Nam):Option Nat:=if Nm.under n o then cutF o.length L n (n.length-o.length+1) else none
def cut (o:Nam) (L:List PRec) (n:Nam):Nam:=match cutAt o L n with
 | none=>[]
 | some k=>n.drop k
def isCut (o:Nam) (L:List PRec) (n:Nam):Bool:=(cutAt o L n).isSome
def wher (o:Nam) (L:List PRec) (n:Nam):Int:=if Nm.under n o then (match cutAt o L n with
 | none=>1
 | some k=>if (n.drop k).length=n.length then 2 else 3) else 0
def exi (o:Nam) (L:List PRec) (n:Nam):Bool:=Nm.under n o&&(decide (n.length=o.length) || L.any fun r=>Nm.under r.owner n)
def enclF (o:Nam) (L:List PRec) (n:Nam):Nat->Nat->Nat
 | 0,out=>out
 | k+1,out=>if exi o L (n.drop k) then enclF o L n k k else out
def encl (o:Nam) (L:List PRec) (n:Nam):Nam:=if Nm.under n o then n.drop (enclF o L n (n.length-o.length+1) n.length) else []
def star (o:Nam) (L:List PRec) (n:Nam):Nam:=[42]::encl o L n
def isSrc (o:Nam) (L:List PRec) (n:Nam):Bool:=L.any fun r=>Nm.same r.owner (star o L n)
def src (o:Nam) (L:List PRec) (n:Nam):Nam:=if isSrc o L n then star o L n else []
theorem cutF_lt {ol:Nat} {L:List PRec} {n:Nam}:∀{k j:Nat},cutF ol L n k=some j->j<k/\ol<(n.drop j).length/\has L (n.drop j) 2=true
 | 0,_,h=>by cases h
 | k+1,j,h=>by
  unfold cutF at h;split at h
  ·rename_i hc
   cases h;simp only[Bool.and_eq_true,decide_eq_true_eq] at hc;exact⟨by omega,hc⟩
  ·have:=cutF_lt h
   exact⟨by omega,this.2⟩
theorem cutAt_some {o:Nam} {L:List PRec} {n:Nam} {k:Nat} (h:cutAt o L n=some k):Nm.under n o=true/\k<=n.length-o.length/\o.length<n.length-k/\has L (n.drop k) 2=true:=by
 unfold cutAt at h;split at h
 ·rename_i hu
  have:=cutF_lt h
  rw[List.length_drop] at this;exact⟨hu,by omega,this.2⟩
 ·cases h
theorem wher_none {o:Nam} {L:List PRec} {n:Nam} (h:Nm.under n o=true) (hc:cutAt o L n=none):wher o L n=1:=by
 unfold wher;rw[if_pos h,hc]
end Zn
end
end Go.Proofs.YtgmbefolgppmdaaGreat
