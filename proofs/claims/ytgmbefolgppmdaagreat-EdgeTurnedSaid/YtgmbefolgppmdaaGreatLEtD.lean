/- EdgeTurned: the walk. -/
import Derived.Test.YtgmbefolgppmdaaGreatLEtC
import Derived.Test.YtgmbefolgppmdaaGreatLEhO
import Derived.Test.YtgmbefolgppmdaaGreatLEgF
import Derived.Test.YtgmbefolgppmdaaGreatLReg
import Derived.Test.YtgmbefolgppmdaaGreatLAli
namespace Go.Proofs.YtgmbefolgppmdaaGreat
open Go.RowKit Go.Shelf Go.Sort
set_option maxRecDepth 100000
attribute [local go_sem] Oper.semAt_some
theorem info_nhost:(Tryz.prog.info? 42).map (fun i=>(i.zero,i.size,i.bytes))=some (some (.agg #[.slice none 0 0,.int .u8 0,.int .u8 0,.int .u8 0,.int .u8 0,.slice none 0 0]),6,56):=by kernel_rfl
theorem info_nzone:(Tryz.prog.info? 54).map (fun i=>(i.zero,i.size,i.bytes))=some (some (.agg #[.slice none 0 0,.slice none 0 0]),2,48):=by kernel_rfl
theorem row_emptyH (R:Nat->Prop) (w:World) (h:R w.heap.size):Row R 42 6 (.slice (some ⟨w.heap.size,0,none⟩) 0 0) 0 [] (w.alloc (.cells #[] 42)) :=
 ⟨World.ownsRow_lit w #[] 0 (Nat.zero_le _) (by unfold maxLen;omega) rfl,fun g hg=>by cases hg;exact h⟩
theorem wf_u8e {n:Int} (h:(Lit.int .u8 n).wf=true):∃t:Nat,n=(t:Int)/\t<256:=by
 simp only[Lit.wf,Bool.and_eq_true,decide_eq_true_eq] at h;have h1:IntKind.u8.min=0:=by decide
 have h2:IntKind.u8.max=256-1:=by decide
 exact⟨n.toNat,by omega,by omega⟩
theorem words_ne (k:Nat) (h:k<5) (h1:1<=k):Eg.words[k]'h≠[]:=by
 have:k=1\/k=2\/k=3\/k=4:=by omega
 rcases this with rfl|rfl|rfl|rfl<;>exact List.cons_ne_nil _ _
set_option maxHeartbeats 4000000 in
theorem walkEdgeTurned (w:World) (v0:Value) (hs:List (HR w)) (a1:Int) (h0:NetRd v0 hs) (ha:(Lit.int .u8 a1).wf=true) :
  Calls Tryz.prog 4 #[v0,.int .u8 a1] w fun e w'=>e=.returned (.bool true)/\Below w.heap.size w w':=by
 obtain⟨tn,rfl,htn⟩:=wf_u8e ha;clear ha;obtain⟨vh,ro,rl,rc,rs,r1,r2,rfl,hv,hr⟩:=h0;obtain⟨oh,ch,rfl,_,_⟩:=hv.form;rw[Zf] at hv ⊢;obtain⟨W1,hW1⟩:=Zq (w.alloc (.cells #[.slice oh hs.length ch,.slice ro rl rc,.int .i64 r1,.int .i64 r2] 25));have HB1:Hid (Below w.heap.size w W1):=by show Below _ _ _;rw[<-hW1];exact Zr
 have HS1:Hid (W1.heap.size=w.heap.size+1):=by show _=_;rw[<-hW1,World.size_alloc]
 have k0:Blk w.heap.size #[.slice oh hs.length ch,.slice ro rl rc,.int .i64 r1,.int .i64 r2] 25 W1:=by rw[<-hW1];exact Blk.new w _ _
 have HCZ:Hid (∀W',Below W1.heap.size W1 W'->W'.cell? ⟨w.heap.size,0,none⟩=some (.slice oh hs.length ch)/\W'.cell? ⟨w.heap.size,1,none⟩=some (.slice ro rl rc)/\W'.cell? ⟨w.heap.size,2,none⟩=some (.int .i64 r1)/\W'.cell? ⟨w.heap.size,3,none⟩=some (.int .i64 r2)):=fun W' hW=>⟨(k0.below hW).cell 0,(k0.below hW).cell 1,(k0.below hW).cell 2,(k0.below hW).cell 3⟩
 have HGO:Hid (∀W',Below w.heap.size w W'->Calls Tryz.prog 6 #[.agg #[.slice oh hs.length ch,.slice ro rl rc,.int .i64 r1,.int .i64 r2]] W' (Says (GoodN hs) W')):=fun W' hW=>good16_any hW hs _ ro rl rc rs r1 r2 hv hr
 have HHV:=Hd hv;have HTN:=Hd htn;clear hv hr k0 htn;obtain⟨hl,hhl⟩:=Zq hs.length;have HHL:=Hd hhl;rw[hhl] at HCZ HGO HHV hW1 ⊢;clear hhl;refine (zF (n:=0)).1 ?_;refine callsIn_of_wp Tryz.func4 rfl trivial ?_ rfl;simp only[Tryz.ntmps4,Zo,Ze,Zg,Nat.reduceAdd,Nat.reduceSub,Zi,Zj,Zk,Zl,Zm,Zp];gi_wp2_with fail
 refine (callsIn_wide.2 (known17_any W1)).mono ?_;rintro e9 W2 ⟨rfl,b9⟩;have HB2:=Hd b9;clear b9 hW1;obtain⟨z0,z1,z2,z3⟩:=HCZ.out W2 HB2.out;gi_wp2_with fail
 refine (callsIn_wide.2 (HGO.out W2 (Z5 HB1.out HB2.out))).mono ?_;rintro e9 W3 ⟨b,rfl,hq,b9⟩;have HQ:=Hd hq;have HB3:=Hd (Z5 HB2.out b9);clear b9 hq z0 z1 z2 z3;cases b with
 | false =>
  gi_wp2_with fail
  go_ret
  exact⟨rfl,Z5 HB1.out HB3.out⟩
 | true =>
 obtain⟨hn6,hgh⟩:=HQ.out rfl;clear HQ;obtain⟨hs',he,hok⟩:=hes_of hs hgh;have hlen:hs'.length=hl:=by have:=congrArg List.length he;rw[Zf,Zf] at this;rw[this];exact HHL.out
 have hv':GRd 6 (.slice oh hl ch) (hs'.map encHo) w:=by rw[he];exact HHV.out
 have HFL:Hid (∀W',Below w.heap.size w W'->Calls Tryz.prog 8 #[.agg #[.slice oh hl ch,.slice ro rl rc,.int .i64 r1,.int .i64 r2]] W' (FlR (w:=w) (Eg.flawsP ((Eg.zs hs').map Eg.pz)) W')):=fun W' hW=>flaws_any hW _ _ _ _ hs' hv' (by have:=HHL.out;omega) (fun h hh z hz=>(hok h hh z hz).1)
 have HOK:=Hd hok;have HLN:=Hd hlen;have HV:=Hd hv';have HN6:Hid (hl<=6):=by show _<=_;have:=HHL.out;omega
 clear hn6 hgh he hlen hv' hok HHV HHL HGO;obtain⟨z0,z1,z2,z3⟩:=HCZ.out W3 HB3.out;obtain⟨W4,hW4⟩:=Zq (W3.alloc (.cells #[.slice oh hl ch,.slice ro rl rc,.int .i64 r1,.int .i64 r2] 25));have b34:Below W3.heap.size W3 W4:=by rw[<-hW4];exact Zr
 have s4:W4.heap.size=W3.heap.size+1:=by rw[<-hW4,World.size_alloc]
 have km:Blk W3.heap.size #[.slice oh hl ch,.slice ro rl rc,.int .i64 r1,.int .i64 r2] 25 W4:=by rw[<-hW4];exact Blk.new W3 _ _
 obtain⟨y0,y1,y2,y3⟩:=HCZ.out W4 (Z5 HB3.out b34);have hnb:Below W4.heap.size W4 (W4.alloc (.cells #[] 42)):=Zr;have x0:(W4.alloc (.cells #[] 42)).cell? ⟨w.heap.size,0,none⟩=some _:=(HCZ.out _ (Z5 HB3.out (Z5 b34 hnb))).1;have HKM:=Hd km;have HS4:=Hd s4;have HB4:Hid (Below W1.heap.size W1 W4):=Z5 HB3.out b34;have HRE:Hid (Row (fun g=>W4.heap.size<=g) 42 6 (.slice (some ⟨W3.heap.size+1,0,none⟩) 0 0) 0 ([]:List (List Value)).flatten (W4.alloc (.cells #[] 42))):=by
  have h:=row_emptyH (fun g=>W4.heap.size<=g) W4 (Zh _)
  rw[s4] at h ⊢;exact h
 have HVG:Hid (GRd 6 (.slice oh hl ch) (hs'.map encHo) (W4.alloc (.cells #[] 42))):=HV.out.below (Z5 (Z5 HB1.out HB4.out) hnb);have HNB:=Hd hnb;clear km b34 hnb;gi_wp2_with (gi_at_builtin;refine Z7 (fun g=>W4.heap.size<=g) 42 _ 6 56 info_nhost rfl (by decide) rfl _ _ _ Tryz.underlying22 rfl _ 0 [] (by rfl) HRE.out _ (hs'.map encHo) (by rfl) HVG.out (by rw[Zf];have:=HLN.out;have:=HN6.out;omega) (by omega) (by simp) ?_;intro v6 w6 hrow6 hgr6;rw[Nat.zero_add,Zf,HLN.out,Zm] at hrow6;obtain⟨o6,c6,e6⟩:=hrow6.form;subst e6;have y6:Blk W3.heap.size #[.slice oh hl ch,.slice ro rl rc,.int .i64 r1,.int .i64 r2] 25 w6:=(hgr6.block _ (by have:=HNB.out.size;have:=HS4.out;omega) (fun e=>by have h:=HRE.out.2 _ e.symm;have:=HS4.out;omega)).trans (HKM.out.below HNB.out);have yc:=y6.cell 0;have yf:=y6.frozen 0;have HY6:=Hd y6;have HR6:=Hd hrow6;have HG6:=Hd hgr6;clear hrow6 hgr6 y6)
 obtain⟨W7,hW7⟩:=Zq (w6.setCell ⟨W3.heap.size,0,none⟩ (.slice o6 hl c6));have h7:Below W1.heap.size W1 W7:=by
  rw[<-hW7];have h1:=Z5 HB4.out HNB.out;refine ((h1.grown HG6.out h1.size (fun g hg=>?_)).setCell (p:=⟨W3.heap.size,0,none⟩) (by have:=HB3.out.size;simp;omega) _)
  have h:=HRE.out.2 g hg;have:=HB4.out.size
  omega
 have hk7:Blk W3.heap.size #[.slice o6 hl c6,.slice ro rl rc,.int .i64 r1,.int .i64 r2] 25 W7:=by rw[<-hW7];exact HY6.out.setAt 0 _
 have htu:TuM hs' tn W4.heap.size 0 (hs'.map encHo) (.slice o6 hl c6) W7:=by
  refine⟨?_,by rw[Zf],fun j h1 h2 h3=>by omega,fun j h1 h2 _=>by rw[List.getElem_map]⟩
  rw[<-hW7,HLN.out];exact HR6.out.setOther (by have:=HS4.out;omega) _
 have HOF:Hid (0<hl->∃g,o6=some ⟨g,0,none⟩):=fun h=>by
  rcases HR6.out.1.2 with⟨_,e⟩|⟨g,c',cur,e,_⟩
  ·omega
  ·cases e;exact⟨g,rfl⟩
 rw[hW7];have H7:=Hd h7;have HK7:=Hd hk7;have HTU:=Hd htu;clear hW7 h7 hk7 htu yc yf HY6 HR6 HG6 HRE HVG HNB x0 y0 y1 y2 y3 z0 z1 z2 z3 hW4
 gi_loopw [6] (fun vi A=>∃(i:Nat) (css:List (List Value)),i<=hl/\vi=.int .i64 i/\TuM hs' tn W4.heap.size i css (.slice o6 hl c6) A/\Blk W3.heap.size #[.slice o6 hl c6,.slice ro rl rc,.int .i64 r1,.int .i64 r2] 25 A/\Below W1.heap.size W1 A) (fun vi _=>hl-(intOf vi).toNat)
 case atStart=>exact⟨0,_,Nat.zero_le _,rfl,HTU.out,HK7.out,H7.out⟩
 case round =>
  clear H7 HK7 HTU;obtain⟨i,css,hi,rfl,hT,hk,hb⟩:=hrel;have c0:=hk.cell 0;by_cases hlt:i<hl
  case neg =>
   obtain rfl:i=hl:=by omega
   have hlz:¬((i:Int)<(i:Int)):=by omega
   obtain⟨W8,hW8⟩:∃W,W=wr:=⟨_,rfl⟩;subst hW8;have HF2:Hid (∀W',Below W8.heap.size W8 W'->Calls Tryz.prog 8 #[.agg #[.slice o6 i c6,.slice ro rl rc,.int .i64 r1,.int .i64 r2]] W' (FlR (w:=W8) (Eg.flawsP ((Eg.zs hs').map Eg.pz)) W')):=fun W' hW=>TuM.flaws (B:=W4.heap.size) (css:=css) (t:=tn) (Z5 HB1.out hb) (by rw[HLN.out];exact hT) (by have:=HN6.out;have:=HLN.out;omega) (fun h hh z hz=>(HOK.out h hh z hz).1) hW _ _ _
   have HK:=Hd hk;have HB:=Hd hb;obtain⟨z0,z1,z2,z3⟩:=HCZ.out W8 hb;clear hT hk hb;gi_wp2_with fail
   refine (callsIn_wide.2 (HFL.out W8 (Z5 HB1.out HB.out))).mono ?_;rintro e9 W9 ⟨va,la,rfl,hga,hofa,hla,b9⟩;obtain⟨oa,ca,rfl,ha1,ha2⟩:=hga.form;rw[Zf] at hga ha1 ⊢;obtain⟨n,hn⟩:=Zq la.length;have HNA:=Hd hn;rw[hn] at hga ha1 hla ⊢;have HGA:=Hd hga;have HOA:=Hd hofa;have HB9:=Hd (Z5 HB.out b9);have HB89:=Hd b9;have y0:=(HK.out.below b9).cell 0;have y1:=(HK.out.below b9).cell 1;have y2:=(HK.out.below b9).cell 2;have y3:=(HK.out.below b9).cell 3;have hlan:n<=24000:=hla;clear hga hofa b9 hn z0 z1 z2 z3 hla HFL;gi_wp2_with fail
   refine (callsIn_wide.2 (HF2.out W9 HB89.out)).mono ?_;rintro e9 Wg ⟨vb,lb,rfl,hgb,hofb,_,b9⟩;have hal:=HOA.out.same hofb;obtain⟨hle,hat⟩:=Eg.alike_at hal;have hlab:lb.length=n:=by unfold plG at hle;rw[Zf,Zf,HNA.out] at hle;exact hle.symm
   have HAT:Hid (∀i (h:i<la.length) (h':i<lb.length),Eg.cmp la[i].1.2 lb[i].1.2=0):=fun i hi hi'=>by
    have h:=hat i (by unfold plG;simpa using hi) (by unfold plG;simpa using hi')
    unfold plG at h;simpa using h
   have HST:Hid (∀i (h:i+1<la.length),Eg.cmp la[i].1.2 la[i+1].1.2<0):=fun i h=>by
    have h1:=List.pairwise_iff_getElem.1 HOA.out.strict i (i+1) (by unfold plG;rw[Zf];omega) (by unfold plG;rw[Zf];exact h) (by omega)
    simpa[plG] using h1
   have HFI:Hid (∀i (h:i<la.length),Eg.Fine la[i].1.2):=fun i h=>Eg.flaw_fine (HOA.out.some _ (List.mem_map.2 ⟨la[i],List.getElem_mem h,rfl⟩))
   obtain⟨ob,cb,rfl,hb1,hb2⟩:=hgb.form;rw[Zf,hlab] at hgb hb1 ⊢;have HGB:=Hd hgb;have HGA:=Hd (HGA.out.below b9);have HLB:=Hd hlab;have HBW:Hid (Below w.heap.size w Wg):=Z5 HB1.out (Z5 HB9.out b9);have HB8:Hid (Below W8.heap.size W8 Wg):=Z5 HB89.out b9;clear hgb hofb hal hle hat hlab b9 y0 y1 y2 y3 HF2;have nz:(n:Int)<=24000:=by omega
   gi_wp2_with fail
   gi_loopw [11] (fun vi A=>∃k:Nat,k<=n/\vi=.int .i64 k/\Below Wg.heap.size Wg A) (fun vi _=>n-(intOf vi).toNat)
   case atStart=>exact⟨0,Nat.zero_le _,rfl,Below.refl _ _⟩
   case round =>
    obtain⟨k,hk,rfl,hbw⟩:=hrel;by_cases hlt:k<n
    case neg =>
     have hlz2:¬((k:Int)<(n:Int)):=by omega
     gi_wp2_with fail
     go_ret
     exact⟨rfl,Z5 HBW.out hbw⟩
    case pos =>
    have hlz2:(k:Int)<(n:Int):=by omega
    have hka:k<la.length:=by rw[HNA.out];exact hlt
    have hkb:k<lb.length:=by rw[HLB.out];exact hlt
    obtain⟨x,hx⟩:=Zq (la[k]);obtain⟨y,hy⟩:=Zq (lb[k]);have hxy:=HAT.out k hka hkb;obtain⟨⟨kn,kn1,kn5,hkn⟩,hun⟩:=HFI.out k hka;rw[hx] at hkn hun hxy;rw[hy] at hxy;obtain⟨p0,n0,q0,p1,n1,q1,p2,n2,q2,ex,hx0,hx1,hx2⟩:=x.2.1.cells;obtain⟨r0,m0,t0,r1,m1,t1,r2,m2,t2,ey,hy0,hy1,hy2⟩:=y.2.1.cells;obtain⟨kt,hkt⟩:=Zq x.1.2.server;obtain⟨ky,hky⟩:=Zq y.1.2.kind;obtain⟨ks,hks⟩:=Zq y.1.2.server;rw[hkn,hkt] at ex;rw[hky,hks] at ey;have HC0:Hid (∀W',Below Wg.heap.size Wg W'->Calls Tryz.prog 11 #[.agg #[.int .i64 (kn:Int),.slice p0 n0 q0,.slice p1 n1 q1,.slice p2 n2 q2,.int .i64 kt],.agg #[.int .i64 ky,.slice r0 m0 t0,.slice r1 m1 t1,.slice r2 m2 t2,.int .i64 ks]] W' (Gives (.int .i64 0) W')):=fun W' hW=>by
     have h:=egCompare_any x.1.1 y.1.1 x.1.2 y.1.2 W' (x.2.1.below (Z5 HBW.out hW)) (y.2.1.below (Z5 HB8.out hW)) x.2.2 y.2.2;rw[hxy,show x.1.1=_ from ex,show y.1.1=_ from ey] at h
     exact h
    have HUN:Hid (∀W',Below Wg.heap.size Wg W'->Calls Tryz.prog 13 #[.slice p1 n1 q1,.slice p0 n0 q0] W' (Gives (.bool true) W')):=fun W' hW=>by
     have h:=nUnder_any (.slice p1 n1 q1) (.slice p0 n0 q0) x.1.2.child x.1.2.parent W' (hx1.below (Z5 HBW.out hW)) (hx0.below (Z5 HBW.out hW)) x.2.2.child x.2.2.parent;rw[hun] at h;exact h
    obtain⟨ws,hws⟩:=Zq (Eg.words[kn]'kn5);have HWD:Hid (∀W',Calls Tryz.prog 12 #[.int .i64 (kn:Int)] W' fun e w'=>e=.returned (S ws)/\Below W'.heap.size W' w'):=fun W'=>by
     have h:=egWord_any kn kn5 W';rw[hws] at h;exact h
    have HWN:Hid (ws≠[]):=by
     show ws≠[];rw[<-hws];exact words_ne kn kn5 kn1
    obtain⟨ga,rfl,_⟩:=HGA.out.elT5 _ (Below.refl _ _) k hka _ _ _ _ _ (by rw[hx];exact ex)
    obtain⟨gb,rfl,_⟩:=HGB.out.elT5 _ (Below.refl _ _) k hkb _ _ _ _ _ (by rw[hy];exact ey)
    obtain⟨ea,hea⟩:=Zq (ga.add (k*5));obtain⟨eb,heb⟩:=Zq (gb.add (k*5));have HCS:Hid (∀W',Below Wg.heap.size Wg W'->Cs [(ea,Value.int .i64 (kn:Int)),(⟨ea.block,ea.off+1,none⟩,.slice p0 n0 q0),(⟨ea.block,ea.off+2,none⟩,.slice p1 n1 q1),(⟨ea.block,ea.off+3,none⟩,.slice p2 n2 q2),(⟨ea.block,ea.off+4,none⟩,.int .i64 kt),(eb,Value.int .i64 ky),(⟨eb.block,eb.off+1,none⟩,.slice r0 m0 t0),(⟨eb.block,eb.off+2,none⟩,.slice r1 m1 t1),(⟨eb.block,eb.off+3,none⟩,.slice r2 m2 t2),(⟨eb.block,eb.off+4,none⟩,.int .i64 ks)] W'):=fun W' hW=>by
     obtain⟨a',ha',c0,c1,c2,c3,c4⟩:=HGA.out.elT5 _ hW k hka _ _ _ _ _ (by rw[hx];exact ex)
     obtain⟨b',hb',d0,d1,d2,d3,d4⟩:=HGB.out.elT5 _ hW k hkb _ _ _ _ _ (by rw[hy];exact ey)
     cases ha';cases hb';rw[hea] at c0 c1 c2 c3 c4;rw[heb] at d0 d1 d2 d3 d4;exact⟨c0,c1,c2,c3,c4,d0,d1,d2,d3,d4,trivial⟩
    have HBX:=Hd hbw;have HX:=Hd hx;have HEX:=Hd ex;clear hx hy ey hx0 hx1 hx2 hy0 hy1 hy2 hxy hkt hky hks hbw hws hkn hun kn1;clear ex;rcases Nat.eq_zero_or_pos k with hk0|hk0
    ·have hkz:(k:Int)=0:=by omega
     have hkd:decide (0<k)=false:=zL (by omega)
     clear hk0 hkz;gi_wp2_with fail
     refine Z8 (List.range 50) (Cs [(ea,Value.int .i64 (kn:Int)),(⟨ea.block,ea.off+1,none⟩,.slice p0 n0 q0),(⟨ea.block,ea.off+2,none⟩,.slice p1 n1 q1),(⟨ea.block,ea.off+3,none⟩,.slice p2 n2 q2),(⟨ea.block,ea.off+4,none⟩,.int .i64 kt),(eb,Value.int .i64 ky),(⟨eb.block,eb.off+1,none⟩,.slice r0 m0 t0),(⟨eb.block,eb.off+2,none⟩,.slice r1 m1 t1),(⟨eb.block,eb.off+3,none⟩,.slice r2 m2 t2),(⟨eb.block,eb.off+4,none⟩,.int .i64 ks)]) 50 rfl (by kernel_rfl) ?_
     intro wa hwa;have HBA:Hid (Below Wg.heap.size Wg wa):=by subst hwa;exact HBX.out.drew
     have hS:=HCS.out wa HBA.out;clear hwa;refine tC 0 hS ?_;refine tC 1 hS ?_;refine tC 2 hS ?_;refine tC 3 hS ?_;refine tC 4 hS ?_;refine tC 5 hS ?_;refine tC 6 hS ?_;refine tC 7 hS ?_;simp only[Act.put,Za,Zd,Zc];refine oneH 8 (by rfl) (by kernel_rfl) (fun K hK=>?_)
     gi_wp2_with (gi_at_call 11;refine (callsIn_wide.2 (HC0.out wa HBA.out)).mono ?_;rintro e9 wb ⟨rfl,b9⟩)
     have HBB:=Hd (Z5 HBA.out b9);replace hS:=HCS.out wb HBB.out;refine hK _ _ (fun _=>hS) ?_
     clear hK K b9;refine tC 9 hS ?_;refine tC 10 hS ?_;refine tC 11 hS ?_;refine tC 12 hS ?_;refine tC 13 hS ?_;refine tC 14 hS ?_;refine tC 15 hS ?_;simp only[Act.put,Za,Zd,Zc];refine oneH 16 (by rfl) (by kernel_rfl) (fun K hK=>?_)
     gi_wp2_with (gi_at_call 12;refine (callsIn_wide.2 (HWD.out wb)).mono ?_;rintro e9 wc ⟨rfl,b9⟩)
     have HBC:=Hd (Z5 HBB.out b9);replace hS:=HCS.out wc HBC.out;refine hK _ _ (fun _=>hS) ?_
     clear hK K b9;refine takeH 17 (v:=.bool false) (fun _=>trivial) (by rfl) (by kernel_rfl) hS (.inl ⟨by kernel_rfl,fun w1 _=>?qy17⟩) ?_
     case qy17=>go_simp;exact HWN.out
     simp only[Act.put,Za,Zd,Zc];refine tC 18 hS ?_;refine tC 19 hS ?_;simp only[Act.put,Za,Zd,Zc];refine tC 20 hS ?_;simp only[Act.put,Za,Zd,Zc];refine takeH 21 (v:=.bool false) (fun _=>trivial) (by rfl) (by kernel_rfl) hS (.inl ⟨by kernel_rfl,fun w1 _=>?qy21⟩) ?_
     case qy21=>go_simp;(try omega)
     simp only[Act.put,Za,Zd,Zc];refine tC 22 hS ?_;simp only[Act.put,Za,Zd,Zc];refine tU 23 hS ?_;refine tU 24 hS ?_;refine tU 25 hS ?_;refine tU 26 hS ?_;refine tU 27 hS ?_;refine tU 28 hS ?_;refine tU 29 hS ?_;refine tU 30 hS ?_;simp only[Act.put,Za,Zd,Zc];refine tU 31 hS ?_;refine tU 32 hS ?_;refine tU 33 hS ?_;simp only[Act.put,Za,Zd,Zc];refine tC 34 hS ?_;refine tC 35 hS ?_;refine tC 36 hS ?_;simp only[Act.put,Za,Zd,Zc];refine tC 37 hS ?_;refine tC 38 hS ?_;refine tC 39 hS ?_;refine tC 40 hS ?_;refine tC 41 hS ?_;simp only[Act.put,Za,Zd,Zc];refine tC 42 hS ?_;refine tC 43 hS ?_;refine tC 44 hS ?_;refine tC 45 hS ?_;refine tC 46 hS ?_;simp only[Act.put,Za,Zd,Zc];refine oneH 47 (by rfl) (by kernel_rfl) (fun K hK=>?_)
     gi_wp2_with (gi_at_call 13;refine (callsIn_wide.2 (HUN.out wc HBC.out)).mono ?_;rintro e9 we ⟨rfl,b9⟩)
     have HBE:=Hd (Z5 HBC.out b9);replace hS:=HCS.out we HBE.out;refine hK _ _ (fun _=>hS) ?_
     clear hK K b9;refine tC 48 hS ?_;refine tC 49 hS ?_;simp only[Act.put,Za,Zd,Zc];refine Z9 (by kernel_rfl) ?_
     clear hS;gi_wp2_with fail
     exact⟨⟨k+1,hlt,by go_num,HBE.out⟩,by simp[intOf];omega⟩
    ·obtain⟨j,hj⟩:∃j,k=j+1:=⟨k-1,by omega⟩
     have HJK:=Hd hj;have hkd:decide (0<k)=true:=zM (by omega)
     have hjn:(j:Int)<(n:Int):=by omega
     have hja:j<la.length:=by omega
     obtain⟨z,hz⟩:=Zq (la[j]);obtain⟨u0,l0,s0,u1,l1,s1,u2,l2,s2,ez,_⟩:=z.2.1.cells;obtain⟨kz,hkz⟩:=Zq z.1.2.kind;obtain⟨kw,hkw⟩:=Zq z.1.2.server;rw[hkz,hkw] at ez;obtain⟨c,hc⟩:=Zq (Eg.cmp z.1.2 x.1.2);have hc0:c<0:=by
      have h:=HST.out j (by omega)
      rw[hz,show la[j+1]'(by omega)=x by rw[<-HX.out];congr 1;exact hj.symm,hc] at h
      exact h
     have hcd:decide ((0:Int)<=c)=false:=zL (by omega)
     have HC1:Hid (∀W',Below Wg.heap.size Wg W'->Calls Tryz.prog 11 #[.agg #[.int .i64 kz,.slice u0 l0 s0,.slice u1 l1 s1,.slice u2 l2 s2,.int .i64 kw],.agg #[.int .i64 (kn:Int),.slice p0 n0 q0,.slice p1 n1 q1,.slice p2 n2 q2,.int .i64 kt]] W' (Gives (.int .i64 c) W')):=fun W' hW=>by
      have h:=egCompare_any z.1.1 x.1.1 z.1.2 x.1.2 W' (z.2.1.below (Z5 HBW.out hW)) (x.2.1.below (Z5 HBW.out hW)) z.2.2 x.2.2;rw[hc,show z.1.1=_ from ez,show x.1.1=_ from HEX.out] at h
      exact h
     obtain⟨ep,hep⟩:=Zq (ga.add (j*5));have HCT:Hid (∀W',Below Wg.heap.size Wg W'->Cs [(ea,Value.int .i64 (kn:Int)),(⟨ea.block,ea.off+1,none⟩,.slice p0 n0 q0),(⟨ea.block,ea.off+2,none⟩,.slice p1 n1 q1),(⟨ea.block,ea.off+3,none⟩,.slice p2 n2 q2),(⟨ea.block,ea.off+4,none⟩,.int .i64 kt),(eb,Value.int .i64 ky),(⟨eb.block,eb.off+1,none⟩,.slice r0 m0 t0),(⟨eb.block,eb.off+2,none⟩,.slice r1 m1 t1),(⟨eb.block,eb.off+3,none⟩,.slice r2 m2 t2),(⟨eb.block,eb.off+4,none⟩,.int .i64 ks),(ep,Value.int .i64 kz),(⟨ep.block,ep.off+1,none⟩,.slice u0 l0 s0),(⟨ep.block,ep.off+2,none⟩,.slice u1 l1 s1),(⟨ep.block,ep.off+3,none⟩,.slice u2 l2 s2),(⟨ep.block,ep.off+4,none⟩,.int .i64 kw)] W'):=fun W' hW=>by
      obtain⟨c0,c1,c2,c3,c4,d0,d1,d2,d3,d4,_⟩:=HCS.out W' hW;obtain⟨a',ha',f0,f1,f2,f3,f4⟩:=HGA.out.elT5 _ hW j hja _ _ _ _ _ (by rw[hz];exact ez)
      cases ha';rw[hep] at f0 f1 f2 f3 f4;exact⟨c0,c1,c2,c3,c4,d0,d1,d2,d3,d4,f0,f1,f2,f3,f4,trivial⟩
     clear hz ez hkz hkw hc hk0 hj;gi_wp2_with fail
     refine Z8 (List.range 50) (Cs [(ea,Value.int .i64 (kn:Int)),(⟨ea.block,ea.off+1,none⟩,.slice p0 n0 q0),(⟨ea.block,ea.off+2,none⟩,.slice p1 n1 q1),(⟨ea.block,ea.off+3,none⟩,.slice p2 n2 q2),(⟨ea.block,ea.off+4,none⟩,.int .i64 kt),(eb,Value.int .i64 ky),(⟨eb.block,eb.off+1,none⟩,.slice r0 m0 t0),(⟨eb.block,eb.off+2,none⟩,.slice r1 m1 t1),(⟨eb.block,eb.off+3,none⟩,.slice r2 m2 t2),(⟨eb.block,eb.off+4,none⟩,.int .i64 ks),(ep,Value.int .i64 kz),(⟨ep.block,ep.off+1,none⟩,.slice u0 l0 s0),(⟨ep.block,ep.off+2,none⟩,.slice u1 l1 s1),(⟨ep.block,ep.off+3,none⟩,.slice u2 l2 s2),(⟨ep.block,ep.off+4,none⟩,.int .i64 kw)]) 50 rfl (by kernel_rfl) ?_
     intro wa hwa;have HBA:Hid (Below Wg.heap.size Wg wa):=by subst hwa;exact HBX.out.drew
     have hS:=HCT.out wa HBA.out;clear hwa;refine tC 0 hS ?_;refine tC 1 hS ?_;refine tC 2 hS ?_;refine tC 3 hS ?_;refine tC 4 hS ?_;refine tC 5 hS ?_;refine tC 6 hS ?_;refine tC 7 hS ?_;simp only[Act.put,Za,Zd,Zc];refine oneH 8 (by rfl) (by kernel_rfl) (fun K hK=>?_)
     gi_wp2_with (gi_at_call 11;refine (callsIn_wide.2 (HC0.out wa HBA.out)).mono ?_;rintro e9 wb ⟨rfl,b9⟩)
     have HBB:=Hd (Z5 HBA.out b9);replace hS:=HCT.out wb HBB.out;refine hK _ _ (fun _=>hS) ?_
     clear hK K b9;refine tC 9 hS ?_;refine tC 10 hS ?_;refine tC 11 hS ?_;refine tC 12 hS ?_;refine tC 13 hS ?_;refine tC 14 hS ?_;refine tC 15 hS ?_;simp only[Act.put,Za,Zd,Zc];refine oneH 16 (by rfl) (by kernel_rfl) (fun K hK=>?_)
     gi_wp2_with (gi_at_call 12;refine (callsIn_wide.2 (HWD.out wb)).mono ?_;rintro e9 wc ⟨rfl,b9⟩)
     have HBC:=Hd (Z5 HBB.out b9);replace hS:=HCT.out wc HBC.out;refine hK _ _ (fun _=>hS) ?_
     clear hK K b9;refine takeH 17 (v:=.bool false) (fun _=>trivial) (by rfl) (by kernel_rfl) hS (.inl ⟨by kernel_rfl,fun w1 _=>?ry17⟩) ?_
     case ry17=>go_simp;exact HWN.out
     simp only[Act.put,Za,Zd,Zc];refine tC 18 hS ?_;refine tC 19 hS ?_;simp only[Act.put,Za,Zd,Zc];refine tC 20 hS ?_;simp only[Act.put,Za,Zd,Zc];refine takeH 21 (v:=.bool true) (fun _=>trivial) (by rfl) (by kernel_rfl) hS (.inl ⟨by kernel_rfl,fun w1 _=>?ry21⟩) ?_
     case ry21=>go_simp;(try omega)
     simp only[Act.put,Za,Zd,Zc];refine tC 22 hS ?_;simp only[Act.put,Za,Zd,Zc];refine tC 23 hS ?_;refine tC 24 hS ?_;simp only[Act.put,Za,Zd,Zc];refine takeH 25 (v:=.int .i64 (j:Int)) (fun _=>trivial) (by rfl) (by kernel_rfl) hS (.inl ⟨by kernel_rfl,fun w1 _=>?ry25⟩) ?_
     case ry25=>go_simp;(have h1:=HJK.out;rw[IntWalk.i64_in _ (by omega)];omega)
     refine tC 26 hS ?_;refine tC 27 hS ?_;refine tC 28 hS ?_;refine tC 29 hS ?_;refine tC 30 hS ?_;refine tC 31 hS ?_;simp only[Act.put,Za,Zd,Zc];refine oneH 32 (by rfl) (by kernel_rfl) (fun K hK=>?_)
     gi_wp2_with (gi_at_call 11;refine (callsIn_wide.2 (HC1.out wc HBC.out)).mono ?_;rintro e9 wd ⟨rfl,b9⟩)
     have HBD:=Hd (Z5 HBC.out b9);replace hS:=HCT.out wd HBD.out;refine hK _ _ (fun _=>hS) ?_
     clear hK K b9;refine tC 33 hS ?_;simp only[Act.put,Za,Zd,Zc];refine tC 34 hS ?_;refine tC 35 hS ?_;refine tC 36 hS ?_;simp only[Act.put,Za,Zd,Zc];refine tC 37 hS ?_;refine tC 38 hS ?_;refine tC 39 hS ?_;refine tC 40 hS ?_;refine tC 41 hS ?_;simp only[Act.put,Za,Zd,Zc];refine tC 42 hS ?_;refine tC 43 hS ?_;refine tC 44 hS ?_;refine tC 45 hS ?_;refine tC 46 hS ?_;simp only[Act.put,Za,Zd,Zc];refine oneH 47 (by rfl) (by kernel_rfl) (fun K hK=>?_)
     gi_wp2_with (gi_at_call 13;refine (callsIn_wide.2 (HUN.out wd HBD.out)).mono ?_;rintro e9 we ⟨rfl,b9⟩)
     have HBE:=Hd (Z5 HBD.out b9);replace hS:=HCT.out we HBE.out;refine hK _ _ (fun _=>hS) ?_
     clear hK K b9;refine tC 48 hS ?_;refine tC 49 hS ?_;simp only[Act.put,Za,Zd,Zc];refine Z9 (by kernel_rfl) ?_
     clear hS;gi_wp2_with fail
     exact⟨⟨k+1,hlt,by go_num,HBE.out⟩,by simp[intOf];omega⟩
  case pos =>
  have hiz:(i:Int)<(hl:Int):=by omega
  have hil:i<hs'.length:=by rw[HLN.out];exact hlt
  obtain⟨z0,z1,z2,z3⟩:=HCZ.out wr hb;obtain⟨a,rfl,q0,q1⟩:=(HV.out.below (Z5 HB1.out hb)).at (by decide) i (by rw[Zf];exact hil)
  obtain⟨x,hx⟩:=Zq (hs'[i]);rw[List.getElem_map,hx] at q0 q1;obtain⟨ea,hea⟩:=Zq (a.add (i*6));rw[hea] at q0 q1;have e5:wr.cell? ⟨ea.block,ea.off+5,none⟩=some x.vz:=q1 5 (by decide) (by decide)
  obtain⟨oz,cz,hvz,hmc,hmx⟩:=x.hz.form;rw[Zf] at hvz hmc;rw[hvz] at e5;have HXZ:=Hd x.hz;rw[hvz] at HXZ;have HX:=Hd hx;obtain⟨m,hm⟩:=Zq x.zones.length;have hm4:m<=4:=by rw[<-hm];exact x.len
  rw[hm] at e5 HXZ hmc;have HM:=Hd hm;have HT:=Hd hT;have HK:=Hd hk;have HB:=Hd hb;clear q0 q1 hx hvz hm hT hk hb;by_cases hm0:m=0
  ·subst hm0
   have h6:=HN6.out;gi_wp2_with fail
   have hsk:hs'[i].zones.length=0:=by rw[HX.out];exact HM.out
   have hsk2:=HT.out.skip hil hsk;refine⟨⟨i+1,css,hlt,by go_num,hsk2,HK.out,HB.out⟩,?_⟩
   clear hsk hsk2;simp[intOf];omega
  ·have hmz:¬((m:Int)=0):=by omega
   have hmp:0<m:=by omega
   obtain⟨q,hq⟩:=Zq (tn % m);have hqm:q<m:=by rw[<-hq];exact Nat.mod_lt _ hmp
   have hrem:(wrap64 (tn:Int)).tmod (m:Int)=(q:Int):=by
    have h1:wrap64 (tn:Int)=(tn:Int):=by have:=HTN.out;unfold wrap64;omega
    rw[h1,<-hq];exact (Int.ofNat_tmod tn m).symm
   have HQ:=Hd hq;have HMP:=Hd hmp;obtain⟨ad,rfl,_⟩:=HXZ.out.el (by decide) 0 (by rw[Zf,HM.out];exact hmp)
   clear hq;gi_wp2_with fail
   refine Z8 [1,8,12] (fun W'=>W'.cell? ⟨W3.heap.size,0,none⟩=some (.slice o6 hl c6)) 16 rfl (by kernel_rfl) ?_
   intro wa hwa;have HBA:Hid (Below wr.heap.size wr wa):=by subst hwa;exact (Below.refl _ _).drew
   have hS:wa.cell? ⟨W3.heap.size,0,none⟩=some (.slice o6 hl c6):=(HK.out.below HBA.out).cell 0;clear hwa z0 z1 z2 z3 c0 e5;clear hrem;have hqle:q<=m:=Nat.le_of_lt hqm;have hqc:q<=cz:=by omega
   have hqn:¬(cz=q):=by omega
   refine tD 0 ?_;refine tD 2 ?_;refine tD 3 ?_;refine takeP 4 (v:=.slice (some ad) 0 0) (fun _=>trivial) (by rfl) (by kernel_rfl) (.inl ⟨by kernel_rfl,fun w1 _=>?py4⟩) ?_
   case py4=>go_simp
   refine tD 5 ?_;refine tD 6 ?_;refine takeP 7 (v:=.slice (some (ad.add (q*2))) (m-q) (cz-q)) (fun _=>trivial) (by rfl) (by kernel_rfl) (.inl ⟨by kernel_rfl,fun w1 _=>?py7⟩) ?_
   case py7=>go_simp
   refine tD 9 ?_;refine tD 10 ?_;refine takeP 11 (v:=.slice (some ad) q cz) (fun _=>trivial) (by rfl) (by kernel_rfl) (.inl ⟨by kernel_rfl,fun w1 _=>?py11⟩) ?_
   case py11=>go_simp
   refine tC 1 hS ?_;simp only[Act.put,Za,Zd,Zc];have HWA:=Hd (Z5 HB.out HBA.out);have HZA:Hid (GRd 2 (.slice (some ad) m cz) (x.zones.map encZ) wa):=HXZ.out.below (Z5 HB1.out HWA.out);have HDR:Hid (GRd 2 (.slice (some (ad.add (q*2))) (m-q) (cz-q)) ((x.zones.map encZ).drop q) wa):=HZA.out.drop q (by omega)
   have hdl:((x.zones.map encZ).drop q).length=m-q:=by rw[List.length_drop,Zf,HM.out]
   have htl:((x.zones.map encZ).take q).length=q:=by rw[List.length_take,Zf,HM.out];omega
   have HDL:=Hd hdl;have HTL:=Hd htl;have HQM:=Hd hqm;have HMC:=Hd hmc;clear hdl htl;refine oneH 8 (by rfl) (by kernel_rfl) (fun K hK=>?_)
   gi_wp2_with (gi_at_builtin;go_loud (refine append_g0 (fun g=>wa.heap.size<=g) 54 _ 2 48 info_nzone rfl (by decide) rfl _ _ _ Tryz.underlying40 rfl ad (by rfl) _ ((x.zones.map encZ).drop q) (by rfl) HDR.out (by rw[HDL.out];omega) (by rw[HDL.out];omega) (by omega) (fun g h=>h) ?_);intro v8 w8 hrow8 hgr8;obtain⟨o8,c8,e8⟩:=hrow8.form;rw[HDL.out] at e8 hrow8;subst e8;have HR8:=Hd hrow8;have HG8:=Hd hgr8;clear hrow8 hgr8)
   have HB8:Hid (Below wa.heap.size wa w8):=(Below.refl _ _).grown HG8.out (Zh _) (fun g hg=>by cases hg)
   refine hK _ _ (fun _=>(HK.out.below (Z5 HBA.out HB8.out)).cell 0) ?_
   clear hK K hS;have HTK:Hid (GRd 2 (.slice (some ad) q cz) ((x.zones.map encZ).take q) w8):=(HZA.out.below HB8.out).take q cz (by omega) (by omega) (Zh _) (fun h=>by cases h)
   refine oneH 12 (by rfl) (by kernel_rfl) (fun K hK=>?_)
   gi_wp2_with (gi_at_builtin;refine Z7 (fun g=>wa.heap.size<=g) 54 _ 2 48 info_nzone rfl (by decide) rfl _ _ _ Tryz.underlying40 rfl _ (m-q) ((x.zones.map encZ).drop q) (by rfl) HR8.out _ ((x.zones.map encZ).take q) (by rfl) HTK.out (by rw[HTL.out];omega) (by omega) HB8.out.size ?_;intro v9 w9 hrow9 hgr9;obtain⟨o9,c9,e9⟩:=hrow9.form;rw[HTL.out,Nat.sub_add_cancel (Nat.le_of_lt HQM.out)] at e9 hrow9;subst e9;have HR9:=Hd hrow9;have HG9:=Hd hgr9;clear hrow9 hgr9)
   have HB9:Hid (Below wa.heap.size wa w9):=HB8.out.grown HG9.out HB8.out.size (fun g hg=>HR8.out.2 g hg)
   refine hK _ _ (fun _=>(HK.out.below (Z5 HBA.out HB9.out)).cell 0) ?_
   clear hK K;obtain⟨gm,rfl⟩:=HOF.out (by omega)
   have hadd:(⟨gm,0,none⟩:Addr).add (i*6)=⟨gm,i*6,none⟩:=by unfold Addr.add;split<;>simp_all
   have HT9:=Hd (HT.out.below (Z5 HBA.out HB9.out));refine tD 13 ?_;refine tD 14 ?_;simp only[Act.put,Za,Zd,Zc];have hca:=Row.cellAt (by have:=HT9.out.row;rw[HLN.out] at this;exact this) (i*6+5) (by omega)
   obtain⟨hca,hcf⟩:=hca;have hfl:i*6+5<css.flatten.length:=by rw[flatten_len HT9.out.len6,HT9.out.len,HLN.out];omega
   rw[zN hfl] at hca;obtain⟨ov,hov⟩:=Zq (css.flatten[i*6+5]);rw[hov] at hca;clear hov hfl;have h6:=HN6.out;have HGM:Hid (W4.heap.size<=gm):=HT9.out.row.2 gm rfl;have HRZ:Hid (Row (fun _=>True) 54 2 (.slice o9 m c9) hs'[i].zones.length ((rotL hs'[i].zones tn).map encZ).flatten w9):=by
    have e1:rotL x.zones tn=x.zones.drop q++x.zones.take q:=by
     unfold rotL;rw[if_neg (by rw[HM.out];omega),HM.out,HQ.out]
    show Row _ _ _ _ _ _ _;rw[HX.out,e1,List.map_append,List.map_drop,List.map_take,HM.out];exact HR9.out.mono (fun _ _=>trivial)
   refine oneH 15 (by rfl) (by kernel_rfl) (fun K hK=>?_)
   gi_wp2_with fail
   refine hK _ _ (fun h=>absurd h (by decide)) ?_
   clear hK K;refine Z9 (by kernel_rfl) ?_
   gi_wp2_with fail
   refine⟨⟨i+1,css.set i (tcs hs'[i] (.slice o9 m c9)),hlt,by go_num,?_,?_,?_⟩,by simp[intOf];omega⟩
   ·exact HT9.out.step hil HRZ.out
   ·exact (HK.out.below (Z5 HBA.out HB9.out)).set (by have:=HGM.out;have:=HS4.out;omega) _
   ·exact (Z5 HWA.out HB9.out).setCell (p:=⟨gm,i*6+5,none⟩) (by have:=HGM.out;have:=HB4.out.size;simp;omega) _
end Go.Proofs.YtgmbefolgppmdaaGreat
