/- Sets of records: one set. -/
import Derived.Test.YtgmbefolgppmdaaGreatLRsB
import Derived.Test.YtgmbefolgppmdaaGreatLAli
import Derived.Test.YtgmbefolgppmdaaGreatLRcO
namespace Go.Proofs.YtgmbefolgppmdaaGreat
open Go.RowKit Go.Shelf Go.Sort
set_option maxRecDepth 100000
section
attribute [local go_sem] Oper.semAt_some
theorem setsCall_any (o:Option Addr) (n cap:Nat) (w:World) :
  Calls Tryz.prog 77 #[.slice o n cap] w fun e w'=>e=.returned (.func (.func 103) #[] #[.pointer (some ⟨w.heap.size,0,none⟩)])/\w.alloc (.cells #[.slice o n cap] 52)=w':=by
 go_enter Tryz.func77,Tryz.ntmps77
 go_wp2
 go_ret
 exact⟨rfl,rfl⟩
namespace Rs
open Rc
def Q (owner:List (List UInt8)) (t:Int) (r:PRec):Bool:=(t == r.type)&&Nm.same owner r.owner
def mine (l:List PRec) (owner:List (List UInt8)) (t:Int):List PRec:=canon (l.filter (Q owner t))
end Rs
section
variable {w:World}
def ofV (c:List (El w)) (v:Value) (W:World):Prop:=match c with
 | []=>v=.agg #[.slice none 0 0,.int .i64 0,.int .u32 0,.slice none 0 0]
 | x::xs=>∃vo od cd,v=.agg #[vo,.int .i64 x.1.2.type,.int .u32 ((Rs.ttl x.1.2 (plE ((x::xs).take (Rs.run x.1.2 (plE (x::xs))))):Nat):Int),.slice od (Rs.run x.1.2 (plE (x::xs))) cd]/\Rd vo x.1.2.owner w/\DatsRd (.slice od (Rs.run x.1.2 (plE (x::xs))) cd) ((x::xs).take (Rs.run x.1.2 (plE (x::xs)))) W
def OfR (l:List (El w)) (owner:List (List UInt8)) (t:Int) (w0:World) (e:Ending) (w':World):Prop :=
 ∃(c:List (El w)) (v:Value),plE c=Rs.mine (plE l) owner t/\c.length<=l.length/\e=.returned (.tuple #[v,.bool (!c.isEmpty)])/\ofV c v w'/\Below w0.heap.size w0 w'
theorem DatsRd.st {v o n cap} {l:List (El w)} {A B:World} {bl:Nat} (h:DatsRd v l A) (hv:v=.slice o n cap) (hst:A.grownBy B (some bl)) (hb:∀a,o=some a->a.block≠bl):DatsRd v l B:=by
 obtain⟨o',cap',e0,h1,h2,h3,h4⟩:=h;refine⟨o',cap',e0,h1,h2,h3,fun j hj=>?_⟩
 obtain⟨a,ha,hc⟩:=h4 j hj;have ho:o=some a:=by rw[e0] at hv;cases hv;exact ha
 refine⟨a,ha,?_⟩;have hlt:=zG hc;rw[World.cell?_of_block (hst.block _ hlt (fun e=>hb a ho (by have:=Option.some.inj e;rwa [add_block] at this)))];exact hc
structure OfM (B:Nat) (w0 ws:World) (W:World):Prop where
 r0:Blk B #[.slice none 0 0,.int .i64 0,.int .u32 0,.slice none 0 0] 89 W
 r1:Box (B+1) 4 (.bool false) W
 below:Below B w0 W
 size:ws.heap.size<=W.heap.size
theorem OfM.put {B w0 ws L} (hL:ws.heap.size<=L) (hB:B<=ws.heap.size) {A:World} {r:Loop} (h:OfM B w0 ws A) (hr:A.heap[L]? = some (.loop r)) (o:Obj):OfM B w0 ws (A.putObj L o) :=
 ⟨h.r0.put hr o,h.r1.put hr o,below_put h.below (by omega) hr (by have:=h.size;omega) o,by simpa using h.size⟩
theorem OfM.on {B w0 ws} {A W:World} (h:OfM B w0 ws A) (hb:Below A.heap.size A W) (hBA:B<=A.heap.size):OfM B w0 ws W :=
 ⟨h.r0.below hb,h.r1.below hb,h.below.trans (hb.mono hBA),by have:=hb.size;have:=h.size;omega⟩
theorem OfM.st {B w0 ws bl} {A W:World} (h:OfM B w0 ws A) (hst:setSt bl A W) (hbl:B+2<=bl):OfM B w0 ws W :=
 ⟨(hst.1.block B h.r0.lt (fun e=>by cases e;omega)).trans h.r0,(hst.1.block (B+1) h.r1.lt (fun e=>by cases e;omega)).trans h.r1,h.below.grown hst.1 (by have:=h.r0.lt;omega) (fun g hg=>by cases hg;omega),by have:=hst.1.size;have:=h.size;omega⟩
def OfX (B bl:Nat) (w0 ws:World) (c:List (El w)) (k:Code) (W:World):Prop :=
 k=.ret/\∃x xs vo od cd,c=x::xs/\Blk B #[vo,.int .i64 x.1.2.type,.int .u32 ((Rs.ttl x.1.2 (plE ((x::xs).take (Rs.run x.1.2 (plE (x::xs))))):Nat):Int),.slice od (Rs.run x.1.2 (plE (x::xs))) cd] 89 W/\Box (B+1) 4 (.bool true) W /\
  Rd vo x.1.2.owner w/\DatsRd (.slice od (Rs.run x.1.2 (plE (x::xs))) cd) ((x::xs).take (Rs.run x.1.2 (plE (x::xs)))) W/\(∀a,od=some a->bl<a.block)/\Below B w0 W/\ws.heap.size<=W.heap.size
theorem OfX.put {B bl w0 ws L} {c:List (El w)} (hL:ws.heap.size<=L) (hB:B<=ws.heap.size) {k:Code} {A:World} {r:Loop} (h:OfX B bl w0 ws c k A) (hr:A.heap[L]? = some (.loop r)) (o:Obj):OfX B bl w0 ws c k (A.putObj L o):=by
 obtain⟨h0,x,xs,vo,od,cd,h1,h2,h3,h4,h5,h6,h7,h8⟩:=h;exact⟨h0,x,xs,vo,od,cd,h1,h2.put hr o,h3.put hr o,h4,h5.cells_kept (CellsKept.put hr o),h6,below_put h7 (by omega) hr (by omega) o,by simpa using h8⟩
theorem OfX.st {B bl w0 ws} {c:List (El w)} {k:Code} {A W:World} (h:OfX B bl w0 ws c k A) (hst:setSt bl A W) (hbl:B+2<=bl):OfX B bl w0 ws c k W:=by
 obtain⟨h0,x,xs,vo,od,cd,h1,h2,h3,h4,h5,h6,h7,h8⟩:=h;exact⟨h0,x,xs,vo,od,cd,h1,(hst.1.block B h2.lt (fun e=>by cases e;omega)).trans h2,(hst.1.block (B+1) h3.lt (fun e=>by cases e;omega)).trans h3,h4,h5.st rfl hst.1 (fun a ha e=>by have:=h6 a ha;omega),h6,h7.grown hst.1 (by have:=h2.lt;omega) (fun g hg=>by cases hg;omega),by have:=hst.1.size;omega⟩
set_option maxHeartbeats 4000000 in
theorem rsetOf_any {w0:World} (vr vo:Value) (l:List (El w)) (o:List (List UInt8)) (t:Int) (hb0:Below w.heap.size w w0) (hv:RecsRd vr (l.map (·.1)) w0) (na:l.length<=1000) (ho:Rd vo o w0) (no:NB o) :
  Calls Tryz.prog 84 #[vr,vo,.int .i64 t] w0 (OfR l o t w0):=by
 obtain⟨oo,co,rfl,_,_⟩:=ho.form;obtain⟨ov,cv,rfl⟩:∃o cap,vr=.slice o l.length cap:=by obtain⟨_,o,cap,h,_⟩:=hv;exact⟨o,cap,by rw[h,Zf]⟩
 obtain⟨W2,hW2⟩:=Zq ((w0.alloc (.cells #[.slice none 0 0,.int .i64 0,.int .u32 0,.slice none 0 0] 89)).alloc (.cells #[.bool false] 4));have hM:Hid (OfM w0.heap.size w0 w0 W2):=by
  subst hW2;refine⟨(Blk.new w0 _ _).alloc _,?_,(Zr).alloc (by simp) _,by simp;omega⟩
  have:=Box.new (w0.alloc (.cells #[.slice none 0 0,.int .i64 0,.int .u32 0,.slice none 0 0] 89)) 4 (.bool false)
  rwa [World.size_alloc] at this
 have hs2:W2.heap.size=w0.heap.size+2:=by subst hW2;simp
 have HV:=Hd hv.el;have HO:=Hd ho;have NO:=Hd no;have HB0:=Hd hb0;have lo:(l.length:Int)<=1000:=by omega
 clear hv ho no hb0;refine (zF (n:=0)).1 ?_;refine callsIn_of_wp_marks Tryz.func84 rfl trivial ?_ rfl;simp only[Tryz.ntmps84,Zo,Ze,Zg,Nat.reduceAdd,Nat.reduceSub,Zi,Zj,Zk,Zl,Zm,Zp];gi_wp2
 gi_loopw [8,14] (fun v8 v14 W=>∃k:Nat,k<=l.length/\v14=.int .i64 k/\OfM w0.heap.size w0 w0 W/\w0.heap.size+2<=W.heap.size/\Row (fun g=>w0.heap.size+2<=g) 110 7 v8 ((l.take k).filter fun r=>Rs.Q o t r.1.2).length (((l.take k).filter fun r=>Rs.Q o t r.1.2).flatMap encE) W) (fun _ v14 _=>l.length-(intOf v14).toNat)
 case atStart=>exact⟨0,Nat.zero_le _,rfl,hM.out,by omega,Row.nil _ _ _ _⟩
 case round =>
  obtain⟨k,hk,rfl,hm,hsz,hrow⟩:=hrel;by_cases hlt:k<l.length
  ·have hlz:(k:Int)<(l.length:Int):=by omega
   obtain⟨x,hx⟩:=Zq (l[k]);obtain⟨p0,n0,q0,p1,n1,q1,p2,n2,q2,p3,n3,q3,p4,n4,q4,ex⟩:=x.cells;obtain⟨ga,rfl,e0,e1,e2,e3,e4,e5,e6⟩:=HV.out _ hm.below k hlt _ _ _ _ _ _ _ (by rw[hx];exact ex)
   have HX:=Hd ex;have HXL:=Hd hx;have HM:=Hd hm;have HR:=Hd hrow;obtain⟨e,he⟩:=Zq (ga.add (k*7));rw[he] at e0 e1 e2 e3 e4 e5 e6;obtain⟨Wa,hWa⟩:=Zq (wr.alloc (.cells #[.slice none 0 0,.int .u32 0,.int .i64 0,.slice none 0 0,.slice none 0 0,.slice none 0 0,.slice none 0 0] 110));have hblk:Blk wr.heap.size #[.slice none 0 0,.int .u32 0,.int .i64 0,.slice none 0 0,.slice none 0 0,.slice none 0 0,.slice none 0 0] 110 Wa:=by subst hWa;exact Blk.new wr _ _
   have hba:Below wr.heap.size wr Wa:=by subst hWa;exact Zr
   obtain⟨Wb,hWb⟩:∃Wb,((((((Wa.setCell ⟨wr.heap.size,0,none⟩ (.slice p0 n0 q0)).setCell ⟨wr.heap.size,1,none⟩ (.int .u32 (x.1.2.ttl:Int))).setCell ⟨wr.heap.size,2,none⟩ (.int .i64 x.1.2.type)).setCell ⟨wr.heap.size,3,none⟩ (.slice p1 n1 q1)).setCell ⟨wr.heap.size,4,none⟩ (.slice p2 n2 q2)).setCell ⟨wr.heap.size,5,none⟩ (.slice p3 n3 q3)).setCell ⟨wr.heap.size,6,none⟩ (.slice p4 n4 q4)=Wb:=⟨_,rfl⟩;have hblb:Blk wr.heap.size #[.slice p0 n0 q0,.int .u32 (x.1.2.ttl:Int),.int .i64 x.1.2.type,.slice p1 n1 q1,.slice p2 n2 q2,.slice p3 n3 q3,.slice p4 n4 q4] 110 Wb:=by
    subst hWb;exact ((((((hblk.setAt 0 _).setAt 1 _).setAt 2 _).setAt 3 _).setAt 4 _).setAt 5 _).setAt 6 _
   have hbb:Below wr.heap.size wr Wb:=by
    subst hWb;exact ((((((hba.setCell (p:=⟨wr.heap.size,0,none⟩) (Zh _) _).setCell (p:=⟨wr.heap.size,1,none⟩) (Zh _) _).setCell (p:=⟨wr.heap.size,2,none⟩) (Zh _) _).setCell (p:=⟨wr.heap.size,3,none⟩) (Zh _) _).setCell (p:=⟨wr.heap.size,4,none⟩) (Zh _) _).setCell (p:=⟨wr.heap.size,5,none⟩) (Zh _) _).setCell (p:=⟨wr.heap.size,6,none⟩) (Zh _) _
   have a0:Wa.cell? ⟨wr.heap.size,0,none⟩=some _:=hblk.cell 0;have a1:Wa.cell? ⟨wr.heap.size,1,none⟩=some _:=hblk.cell 1;have a2:Wa.cell? ⟨wr.heap.size,2,none⟩=some _:=hblk.cell 2;have a3:Wa.cell? ⟨wr.heap.size,3,none⟩=some _:=hblk.cell 3;have a4:Wa.cell? ⟨wr.heap.size,4,none⟩=some _:=hblk.cell 4;have a5:Wa.cell? ⟨wr.heap.size,5,none⟩=some _:=hblk.cell 5;have a6:Wa.cell? ⟨wr.heap.size,6,none⟩=some _:=hblk.cell 6;have z0:=hblk.frozen 0;have z1:=hblk.frozen 1;have z2:=hblk.frozen 2;have z3:=hblk.frozen 3;have z4:=hblk.frozen 4;have z5:=hblk.frozen 5;have z6:=hblk.frozen 6;have b0:Wb.cell? ⟨wr.heap.size,0,none⟩=some _:=hblb.cell 0;have b1:Wb.cell? ⟨wr.heap.size,1,none⟩=some _:=hblb.cell 1;have b2:Wb.cell? ⟨wr.heap.size,2,none⟩=some _:=hblb.cell 2;have b3:Wb.cell? ⟨wr.heap.size,3,none⟩=some _:=hblb.cell 3;have b4:Wb.cell? ⟨wr.heap.size,4,none⟩=some _:=hblb.cell 4;have b5:Wb.cell? ⟨wr.heap.size,5,none⟩=some _:=hblb.cell 5;have b6:Wb.cell? ⟨wr.heap.size,6,none⟩=some _:=hblb.cell 6;have hbw:Below w.heap.size w Wb:=Z5 (Z5 HB0.out hm.below) hbb;have HIS:=Hd (setIs_any x (.slice oo o.length co) (.slice none 0 0) t 0 o Wb hbw (HO.out.below (hm.below.trans (hbb.mono (by omega)))) NO.out)
   obtain⟨bz,hbz⟩:=Zq (Rs.Q o t x.1.2);have HBZ:=Hd hbz;rw[HX.out,show ((t == x.1.2.type)&&Nm.same o x.1.2.owner)=bz from hbz] at HIS
   have HBB:=Hd hbb;have HBL:=Hd hblb;have htk:l.take (k+1)=l.take k++[x]:=by rw[Zx hlt,hx]
   have HTK:=Hd htk;clear hm hrow ex hx hba hbb hblk hblb hbw hbz htk;gi_wp2_with fail
   refine (callsIn_wide.2 HIS.out).mono ?_;rintro e8 w8 ⟨rfl,bb8⟩;have hb8:=Z5 HBB.out bb8;have q0':w8.cell? ⟨wr.heap.size,0,none⟩=some _:=(HBL.out.below bb8).cell 0;have q1':w8.cell? ⟨wr.heap.size,1,none⟩=some _:=(HBL.out.below bb8).cell 1;have q2':w8.cell? ⟨wr.heap.size,2,none⟩=some _:=(HBL.out.below bb8).cell 2;have q3':w8.cell? ⟨wr.heap.size,3,none⟩=some _:=(HBL.out.below bb8).cell 3;have q4':w8.cell? ⟨wr.heap.size,4,none⟩=some _:=(HBL.out.below bb8).cell 4;have q5':w8.cell? ⟨wr.heap.size,5,none⟩=some _:=(HBL.out.below bb8).cell 5;have q6':w8.cell? ⟨wr.heap.size,6,none⟩=some _:=(HBL.out.below bb8).cell 6;have HB8:=Hd hb8;clear e0 e1 e2 e3 e4 e5 e6 a0 a1 a2 a3 a4 a5 a6 z0 z1 z2 z3 z4 z5 z6 b0 b1 b2 b3 b4 b5 b6 hWa hWb bb8 hb8 he HIS;cases bz with
   | true =>
    obtain⟨W9,hW9⟩:∃W9,w8.alloc (.cells #[.slice p0 n0 q0,.int .u32 (x.1.2.ttl:Int),.int .i64 x.1.2.type,.slice p1 n1 q1,.slice p2 n2 q2,.slice p3 n3 q3,.slice p4 n4 q4] 110)=W9:=⟨_,rfl⟩;have hb9:Below wr.heap.size wr W9:=by subst hW9;exact HB8.out.alloc HB8.out.size _
    have hone:RecsRd (.slice (some ⟨w8.heap.size,0,none⟩) 1 1) [x.1] W9:=by subst hW9;exact recs_one x (Z5 (Z5 HB0.out HM.out.below) HB8.out) HX.out
    have HN1:=Hd (show ((l.take k).filter fun r=>Rs.Q o t r.1.2).length+[x.1].length<=100000 by
     have:=List.length_filter_le (fun r:El w=>Rs.Q o t r.1.2) (l.take k)
     rw[List.length_take] at this;simp only[Ze,Zg];omega)
    have hrow9:=HR.out.below hb9;have hz9:w0.heap.size+2<=W9.heap.size:=by have:=hb9.size;omega
    gi_wp2_with (gi_at_builtin;refine append_recs (fun g=>w0.heap.size+2<=g) rfl _ _ _ Tryz.underlying52 rfl _ _ (((l.take k).filter fun r=>Rs.Q o t r.1.2).flatMap encE) (by rfl) hrow9 _ [x.1] (by rfl) hone HN1.out hz9 ?_;intro v10 w10 hrow10 hgr10)
    have hm10:OfM w0.heap.size w0 w0 w10:=by
     have h9:=HM.out.on hb9 (by omega)
     exact⟨(hgr10.block _ h9.r0.lt (fun e=>by have:=hrow9.2 _ e.symm;omega)).trans h9.r0,(hgr10.block _ h9.r1.lt (fun e=>by have:=hrow9.2 _ e.symm;omega)).trans h9.r1,h9.below.grown hgr10 h9.size (fun g hg=>by have:=hrow9.2 g hg;omega),Nat.le_trans h9.size hgr10.size⟩
    refine⟨⟨k+1,hlt,by go_num,hm10,Nat.le_trans hz9 hgr10.size,?_⟩,by simp[intOf];omega⟩
    rw[HTK.out,List.filter_append,List.filter_cons_of_pos (by exact HBZ.out),List.filter_nil,Zb,List.flatMap_append]
    have:=hrow10
    simpa[encP,encE] using this
   | false =>
    gi_wp2_with fail
    refine⟨⟨k+1,hlt,by go_num,HM.out.on HB8.out (by omega),by have:=HB8.out.size;omega,?_⟩,by simp[intOf];omega⟩
    rw[HTK.out,List.filter_append,List.filter_cons_of_neg (by rw[HBZ.out];exact Bool.false_ne_true),List.filter_nil,List.append_nil]
    exact HR.out.below HB8.out
  ·have hlz:¬((k:Int)<(l.length:Int)):=by omega
   obtain rfl:k=l.length:=by omega
   rw[List.take_length] at hrow;obtain⟨F,hF⟩:=Zq ((l.filter fun r=>Rs.Q o t r.1.2))
   have hfl:F.length<=l.length:=by rw[<-hF];exact List.length_filter_le _ _
   rw[hF] at hrow;have hbw:Below w.heap.size w wr:=Z5 HB0.out hm.below;have hrd:RecsRd u8 (F.map (·.1)) wr:=Row.recs hrow hbw;have HCN:=Hd (canon_any u8 (F.map (El.up hbw)) (by rw[up_fst];exact hrd) (by rw[Zf];omega))
   have HPL:=Hd (up_pl hbw F);have HUP:Hid (∀y∈F.map (El.up hbw),RecRd y.1.1 y.1.2 w):=fun y hy=>by
    obtain⟨z,_,rfl⟩:=List.mem_map.1 hy;exact z.2.1
   have HM:=Hd hm;have HBW:=Hd hbw;have HF:=Hd hF;clear hm hrow hrd hF;gi_wp2_with (gi_at_call 67;refine (callsIn_wide.2 HCN.out).mono ?_;rintro e w1 ⟨v1,l1,rfl,r1,p1,n1,b1,fr1,el1⟩)
   obtain⟨c',d1,d2,d3⟩:=down_list (w:=w) l1 (fun x hx=>el1 x hx w HUP.out)
   obtain⟨o',cap',rfl⟩:∃o c,v1=.slice o l1.length c:=by obtain⟨_,o,c,h,_⟩:=r1;exact⟨o,c,by rw[h,Zf]⟩
   rw[<-d1,<-d3] at r1;rw[<-d3] at fr1;have hcp:plE c'=Rs.mine (plE l) o t:=by
    rw[d2,p1,HPL.out,<-HF.out];unfold Rs.mine;congr 1
    simp only[plE,List.filter_map];rfl
   have hcl:c'.length<=l.length:=by rw[d3];have:=n1;rw[Zf] at this;omega
   have HCP:=Hd hcp;have hsz1:w0.heap.size+2<=w1.heap.size:=by have:=b1.size;omega
   have hm1:=HM.out.on b1 (by omega)
   have hbw1:Below w.heap.size w w1:=Z5 HBW.out b1;have hoo:∀a,o'=some a->0<c'.length->a.block<w1.heap.size:=fun a ha hp=>by
    obtain⟨_,o2,c2,e1,_,_,_,e5⟩:=r1;rw[Zf] at e1;cases e1;obtain⟨a2,ha2,hc2⟩:=e5 0 (by rw[encP_map,flat_len encE 7 encE_len];omega)
    rw[ha] at ha2;cases ha2;have:=zG hc2
    rwa [add_block] at this
   have HR1:=Hd r1;rw[<-d3];clear r1 p1 n1 fr1 el1 d1 d2 d3 hcp b1;gi_wp2_with (gi_at_call 77;refine (callsIn_wide.2 (setsCall_any _ _ _ _)).mono ?_;rintro e ws ⟨rfl,hws⟩)
   have hbs:Below w1.heap.size w1 ws:=by rw[<-hws];exact Zr
   have hss:ws.heap.size=w1.heap.size+1:=by rw[<-hws];simp
   have hAt:SetsAt (fun b=>b<ws.heap.size) w1.heap.size c' ws:=by
    refine⟨⟨o',cap',?_,HR1.out.kept hbs,fun a ha hp=>?_⟩,Z5 hbw1 hbs⟩
    ·rw[<-hws];exact Box.new w1 _ _
    ·have:=hoo a ha hp
     exact⟨by show _<_;omega,by omega⟩
   have hMs:OfM w0.heap.size w0 ws ws:=by
    have h:=hm1.on hbs (by omega)
    exact⟨h.r0,h.r1,h.below,Zh _⟩
   have hwb:w.heap.size<=w1.heap.size:=hbw1.size;have HBW1:=Hd hbw1;clear hws hm1 hbs hoo hbw1;refine rf_outer rfl (enters_of Tryz.func103 (by kernel_rfl) rfl) (sets1_iter (fun b=>b<ws.heap.size) w1.heap.size hwb (by show _<_;omega) c' (by omega))
    (fun A B h=>h.others) (fun A B C h k=>setKp.trans h k) (fun A ob=>setKp.put (by show ¬_<_;omega) (by omega) A ob)
    (fun _ _ _ _ h=>by obtain⟨_,_,_,_,_,_,_,_,_,_,h,_⟩:=h;subst h;rfl)
    (fun k W=>k=c'/\OfM w0.heap.size w0 ws W) (OfX w0.heap.size w1.heap.size w0 ws c')
    (fun _ _ _ h e=>⟨h.1,h.2.st e (by omega)⟩) (fun _ _ _ h e=>h.st e (by omega))
    (fun _ A r ob h hr=>⟨h.1,h.2.put (by omega) (by omega) hr ob⟩) (fun _ A r ob h hr=>h.put (by omega) (by omega) hr ob)
    (fun r=>⟨rfl,?start⟩) (fun r=>?pre) ?round ?done ?stop
   case start=>exact hMs.on ((Zr).alloc (by simp) _) (by omega)
   case pre=>exact hAt.on ((Zr).alloc (by simp) _)
   case round =>
    rintro lp k k' v W ⟨rfl,hM⟩ ⟨x,xs,n,rfl,hn,hle,rfl,vo,od,cd,rfl,hvo,hdt,hne0⟩;have hne:∀a,od=some a->w1.heap.size<a.block:=fun a ha=>(hne0 a ha).1
    clear hne0;obtain⟨ov',cv',rfl,_,_⟩:=hvo.form;obtain⟨tt,htt⟩:∃tt,Rs.ttl x.1.2 (plE ((x::xs).take n))=tt:=⟨_,rfl⟩;rw[htt];have HTT:=Hd htt;have HN:=Hd hn;have HM2:=Hd hM;have HVO:=Hd hvo;have HDT:=Hd hdt;obtain⟨ln,hln⟩:=Zq x.1.2.owner.length;rw[hln] at HVO ⊢;obtain⟨Wa,hWa⟩:=Zq (W.alloc (.cells #[.slice none 0 0,.int .i64 0,.int .u32 0,.slice none 0 0] 89));have hblk:Blk W.heap.size #[.slice none 0 0,.int .i64 0,.int .u32 0,.slice none 0 0] 89 Wa:=by subst hWa;exact Blk.new W _ _
    have hba:Below W.heap.size W Wa:=by subst hWa;exact Zr
    obtain⟨Wb,hWb⟩:∃Wb,(((Wa.setCell ⟨W.heap.size,0,none⟩ (.slice ov' ln cv')).setCell ⟨W.heap.size,1,none⟩ (.int .i64 x.1.2.type)).setCell ⟨W.heap.size,2,none⟩ (.int .u32 (tt:Int))).setCell ⟨W.heap.size,3,none⟩ (.slice od n cd)=Wb:=⟨_,rfl⟩;have hblb:Blk W.heap.size #[.slice ov' ln cv',.int .i64 x.1.2.type,.int .u32 (tt:Int),.slice od n cd] 89 Wb:=by
     subst hWb;exact (((hblk.setAt 0 _).setAt 1 _).setAt 2 _).setAt 3 _
    have hbb:Below W.heap.size W Wb:=by
     subst hWb;exact (((hba.setCell (p:=⟨W.heap.size,0,none⟩) (Zh _) _).setCell (p:=⟨W.heap.size,1,none⟩) (Zh _) _).setCell (p:=⟨W.heap.size,2,none⟩) (Zh _) _).setCell (p:=⟨W.heap.size,3,none⟩) (Zh _) _
    have a0:Wa.cell? ⟨W.heap.size,0,none⟩=some _:=hblk.cell 0;have a1:Wa.cell? ⟨W.heap.size,1,none⟩=some _:=hblk.cell 1;have a2:Wa.cell? ⟨W.heap.size,2,none⟩=some _:=hblk.cell 2;have a3:Wa.cell? ⟨W.heap.size,3,none⟩=some _:=hblk.cell 3;have z0:=hblk.frozen 0;have z1:=hblk.frozen 1;have z2:=hblk.frozen 2;have z3:=hblk.frozen 3;have HBB:=Hd hbb;have HBL:=Hd hblb;have hsW:=hM.size;clear hblk hba hbb hblb hM hvo hdt htt hn hMs hAt;gi_wp2
    refine⟨Z6 HBB.out,⟨keepH.of_below HBB.out (fun b hb=>by have:b<ws.heap.size:=hb;omega),fun h=>Z5 h HBB.out⟩,fun r ob hl hr=>?_⟩
    clear a0 a1 a2 a3 z0 z1 z2 z3 hWa hWb;obtain⟨Wp,hWp⟩:=Zq (Wb.putObj (ws.heap.size+1) (.loop ob));have hMb:=HM2.out.on HBB.out (by omega)
    have hblp:Blk W.heap.size #[.slice ov' ln cv',.int .i64 x.1.2.type,.int .u32 (tt:Int),.slice od n cd] 89 Wp:=by subst hWp;exact HBL.out.put hr _
    have hMp:OfM w0.heap.size w0 ws Wp:=by subst hWp;exact hMb.put (by omega) (by omega) hr _
    have hdp:DatsRd (.slice od n cd) ((x::xs).take n) Wp:=by subst hWp;exact (HDT.out.below HBB.out).cells_kept (CellsKept.put hr _)
    have hWsz:w0.heap.size+2<=W.heap.size:=by omega
    obtain⟨Wq,hWq⟩:∃Wq,((((Wp.setCell ⟨w0.heap.size,0,none⟩ (.slice ov' ln cv')).setCell ⟨w0.heap.size,1,none⟩ (.int .i64 x.1.2.type)).setCell ⟨w0.heap.size,2,none⟩ (.int .u32 (tt:Int))).setCell ⟨w0.heap.size,3,none⟩ (.slice od n cd)).setCell ⟨w0.heap.size+1,0,none⟩ (.bool true)=Wq:=⟨_,rfl⟩;have f0:Wp.cell? ⟨W.heap.size,0,none⟩=some _:=hblp.cell 0;have f1:Wp.cell? ⟨W.heap.size,1,none⟩=some _:=hblp.cell 1;have f2:Wp.cell? ⟨W.heap.size,2,none⟩=some _:=hblp.cell 2;have f3:Wp.cell? ⟨W.heap.size,3,none⟩=some _:=hblp.cell 3;have g0:Wp.cell? ⟨w0.heap.size,0,none⟩=some _:=hMp.r0.cell 0;have g1:Wp.cell? ⟨w0.heap.size,1,none⟩=some _:=hMp.r0.cell 1;have g2:Wp.cell? ⟨w0.heap.size,2,none⟩=some _:=hMp.r0.cell 2;have g3:Wp.cell? ⟨w0.heap.size,3,none⟩=some _:=hMp.r0.cell 3;have g4:=hMp.r1.cell;have y0:=hMp.r0.frozen 0;have y1:=hMp.r0.frozen 1;have y2:=hMp.r0.frozen 2;have y3:=hMp.r0.frozen 3;have y4:=hMp.r1.frozen;have HKO:Hid (KeepsOthers Wp Wq):=by
     subst hWq;exact ((((KeepsOthers.setCell _ _ _).trans (KeepsOthers.setCell _ _ _)).trans (KeepsOthers.setCell _ _ _)).trans (KeepsOthers.setCell _ _ _)).trans (KeepsOthers.setCell _ _ _)
    have HQ0:Hid (Blk w0.heap.size #[.slice ov' ln cv',.int .i64 x.1.2.type,.int .u32 (tt:Int),.slice od n cd] 89 Wq):=by
     subst hWq;exact ((((hMp.r0.setAt 0 _).setAt 1 _).setAt 2 _).setAt 3 _).set (by omega) _
    have HQ1:Hid (Box (w0.heap.size+1) 4 (.bool true) Wq):=by
     subst hWq;exact ((((hMp.r1.setOther (by omega) _).setOther (by omega) _).setOther (by omega) _).setOther (by omega) _).set _
    have HQD:Hid (DatsRd (.slice od n cd) ((x::xs).take n) Wq):=by
     subst hWq;have hq:∀b,b<w1.heap.size->∀a,od=some a->a.block≠b:=fun b hb a ha=>by have:=hne a ha;omega
     exact ((((hdp.set (hq w0.heap.size (by omega)) _).set (hq w0.heap.size (by omega)) _).set (hq w0.heap.size (by omega)) _).set (hq w0.heap.size (by omega)) _).set (hq (w0.heap.size+1) (by omega)) _
    have HQB:Hid (Below w0.heap.size w0 Wq):=by
     subst hWq;exact ((((hMp.below.setCell (p:=⟨w0.heap.size,0,none⟩) (Zh _) _).setCell (p:=⟨w0.heap.size,1,none⟩) (Zh _) _).setCell (p:=⟨w0.heap.size,2,none⟩) (Zh _) _).setCell (p:=⟨w0.heap.size,3,none⟩) (Zh _) _).setCell (p:=⟨w0.heap.size+1,0,none⟩) (by simp) _
    have HQS:Hid (ws.heap.size<=Wq.heap.size):=by
     subst hWq;have:=hMp.size
     show ws.heap.size<=_;simpa[World.setCell] using this
    clear hMb hblp hMp hdp hr;rw[hWp];gi_wp2
    refine⟨HKO.out,rfl,x,xs,.slice ov' ln cv',od,cd,rfl,?_,HQ1.out,HVO.out,?_,hne,HQB.out,HQS.out⟩
    ·rw[<-HN.out,HTT.out];exact HQ0.out
    ·rw[<-HN.out];exact HQD.out
   case done =>
    rintro k W rfl ⟨hk,hM⟩ hKd;have hx1:=hM.r1.frozen;have g4:=hM.r1.cell;have g0:W.cell? ⟨w0.heap.size,0,none⟩=some _:=hM.r0.cell 0;have g1:W.cell? ⟨w0.heap.size,1,none⟩=some _:=hM.r0.cell 1;have g2:W.cell? ⟨w0.heap.size,2,none⟩=some _:=hM.r0.cell 2;have g3:W.cell? ⟨w0.heap.size,3,none⟩=some _:=hM.r0.cell 3;have y0:=hM.r0.frozen 0;have y1:=hM.r0.frozen 1;have y2:=hM.r0.frozen 2;have y3:=hM.r0.frozen 3;obtain⟨Wq,hWq⟩:=Zq (((((W.setCell ⟨w0.heap.size,0,none⟩ (.slice none 0 0)).setCell ⟨w0.heap.size,1,none⟩ (.int .i64 0)).setCell ⟨w0.heap.size,2,none⟩ (.int .u32 0)).setCell ⟨w0.heap.size,3,none⟩ (.slice none 0 0)).setCell ⟨w0.heap.size+1,0,none⟩ (.bool false));have HQ0:Hid (Blk w0.heap.size #[.slice none 0 0,.int .i64 0,.int .u32 0,.slice none 0 0] 89 Wq):=by
     subst hWq;exact ((((hM.r0.setAt 0 _).setAt 1 _).setAt 2 _).setAt 3 _).set (by omega) _
    have HQ1:Hid (Box (w0.heap.size+1) 4 (.bool false) Wq):=by
     subst hWq;exact ((((hM.r1.setOther (by omega) _).setOther (by omega) _).setOther (by omega) _).setOther (by omega) _).set _
    have HQB:Hid (Below w0.heap.size w0 Wq):=by
     subst hWq;exact ((((hM.below.setCell (p:=⟨w0.heap.size,0,none⟩) (Zh _) _).setCell (p:=⟨w0.heap.size,1,none⟩) (Zh _) _).setCell (p:=⟨w0.heap.size,2,none⟩) (Zh _) _).setCell (p:=⟨w0.heap.size,3,none⟩) (Zh _) _).setCell (p:=⟨w0.heap.size+1,0,none⟩) (by simp) _
    have HQS:Hid (ws.heap.size<=Wq.heap.size):=by
     subst hWq;have:=hM.size
     show ws.heap.size<=_;simpa[World.setCell] using this
    have HQK:Hid (Wq.heap[ws.heap.size]? = some (.deferred (some []))):=by
     subst hWq;exact (Below.heap_setCell _ _ _ _ (by simp;omega)).trans ((Below.heap_setCell _ _ _ _ (by simp;omega)).trans ((Below.heap_setCell _ _ _ _ (by simp;omega)).trans ((Below.heap_setCell _ _ _ _ (by simp;omega)).trans ((Below.heap_setCell _ _ _ _ (by simp;omega)).trans hKd))))
    subst hk;clear hM hKd hMs hAt;gi_wp2
    have hcq:=CellsKept.putD HQK.out (.deferred none);have q0:=hcq.cell (HQ0.out.cell 0);have q1:=hcq.cell (HQ0.out.cell 1);have q2:=hcq.cell (HQ0.out.cell 2);have q3:=hcq.cell (HQ0.out.cell 3);have q4:=hcq.cell HQ1.out.cell;have hK2:=HQK.out;refine leaveD (v:=.tuple #[.agg #[.slice none 0 0,.int .i64 0,.int .u32 0,.slice none 0 0],.bool false]) rfl hK2 (by simp at q0 q1 q2 q3;simp[results,Tryz.results84,go_sem,q0,q1,q2,q3,q4]) ?_
    exact⟨[],_,HCP.out,Nat.zero_le _,rfl,rfl,below_putD HQB.out (by omega) (by have:=HQS.out;omega) _⟩
   case stop =>
    rintro c W ⟨rfl,x,xs,vo,od,cd,rfl,h2,h3,h4,h5,h6,h7,h8⟩ hKd;obtain⟨n,hn⟩:∃n,Rs.run x.1.2 (plE (x::xs))=n:=⟨_,rfl⟩;obtain⟨tt,htt⟩:∃tt,Rs.ttl x.1.2 (plE ((x::xs).take n))=tt:=⟨_,rfl⟩;rw[hn] at h2 h5;rw[htt] at h2;have HN:=Hd hn;have HTT:=Hd htt;have H2:=Hd h2;have H3:=Hd h3;have H5:=Hd h5;have H7:=Hd h7;have HKD:=Hd hKd;clear h2 h3 h5 h7 hKd hMs hAt hn htt;gi_wp2
    have hcq:=CellsKept.putD HKD.out (.deferred none);have q0:=hcq.cell (H2.out.cell 0);have q1:=hcq.cell (H2.out.cell 1);have q2:=hcq.cell (H2.out.cell 2);have q3:=hcq.cell (H2.out.cell 3);have q4:=hcq.cell H3.out.cell;have hK2:=HKD.out;refine leaveD (v:=.tuple #[.agg #[vo,.int .i64 x.1.2.type,.int .u32 (tt:Int),.slice od n cd],.bool true]) rfl hK2 (by simp at q0 q1 q2 q3;simp[results,Tryz.results84,go_sem,q0,q1,q2,q3,q4]) ?_
    refine⟨x::xs,_,HCP.out,hcl,rfl,⟨vo,od,cd,?_,h4,?_⟩,below_putD H7.out (by omega) (by omega) _⟩
    ·rw[HN.out,HTT.out]
    ·rw[HN.out];exact H5.out.cells_kept hcq
end
end
section
structure DF (r:Rc.PRec):Prop where
 names:r.names.length<=8
 nums:r.nums.length<=12
 texts:r.texts.length<=40
 raw:r.raw.length<=1100
 name:∀n∈r.names,Nm.few n=true
 text:∀t∈r.texts,t.length<=300
theorem all_of {α:Type} {p:α->Prop} {l:List α} (h:∀j (hj:j<l.length),p l[j]):∀x∈l,p x:=fun x hx=>by
 obtain⟨j,hj,rfl⟩:=List.mem_iff_getElem.1 hx;exact h j hj
def Says (Q:Prop) (w:World) (e:Ending) (w':World):Prop:=∃b,e=.returned (.bool b)/\(b=true->Q)/\Below w.heap.size w w'
theorem Says.no {Q:Prop} {w w':World} (h:Below w.heap.size w w'):Says Q w (.returned (.bool false)) w':=⟨false,rfl,(fun h=>by cases h),h⟩
set_option maxHeartbeats 1000000 in
theorem few4_any (vs:List Value) (r:Rc.PRec) (w0:World) (h:DatRd vs r w0) :
  Calls Tryz.prog 99 #[.agg vs.toArray] w0 (Says (DF r) w0):=by
 obtain⟨vn,vm,vt,vr,rfl,⟨us,hus,h1,h1'⟩,h2,h3,h4⟩:=h;obtain⟨on,cn,rfl,c1,c1'⟩:=h1.form;obtain⟨om,cm,rfl,c2,c2'⟩:=h2.form;obtain⟨ot,ct,rfl,c3,c3'⟩:=h3.form;obtain⟨or,cr,rfl,c4,c4'⟩:=Sl.form h4;have H1:=Hd h1;have H1':=Hd h1';have H3:=Hd h3.cells;have e2:(numC r.nums).length=r.nums.length:=by simp[numC]
 have e4:(r.raw.map fun b:UInt8=>Value.int .u8 (b.toNat:Int)).length=r.raw.length:=by simp
 rw[e2] at c2 ⊢;rw[e4] at c4 ⊢;rw[hus] at c1 ⊢;unfold maxLen at c1' c2' c4';obtain⟨ln,hln⟩:=Zq r.names.length;obtain⟨lm,hlm⟩:=Zq r.nums.length;obtain⟨lt,hlt⟩:=Zq r.texts.length;obtain⟨lr,hlr⟩:=Zq r.raw.length;rw[hln] at c1 ⊢;rw[hlm] at c2 ⊢;rw[hlt] at c3 ⊢;rw[hlr] at c4 ⊢;have HUS:=Hd (hus.trans hln);have HL:=Hd (And.intro hln (And.intro hlm (And.intro hlt hlr)));obtain⟨W1,hW1⟩:=Zq (w0.alloc (.cells #[.int .i64 r.type,.slice on ln cn,.slice om lm cm,.slice ot lt ct,.slice or lr cr] 107));have hb1:Below w0.heap.size w0 W1:=by subst hW1;exact Zr
 have hblk:Blk w0.heap.size #[.int .i64 r.type,.slice on ln cn,.slice om lm cm,.slice ot lt ct,.slice or lr cr] 107 W1:=by subst hW1;exact Blk.new w0 _ _
 have d1:W1.cell? ⟨w0.heap.size,1,none⟩=some _:=hblk.cell 1;have d2:W1.cell? ⟨w0.heap.size,2,none⟩=some _:=hblk.cell 2;have d3:W1.cell? ⟨w0.heap.size,3,none⟩=some _:=hblk.cell 3;have d4:W1.cell? ⟨w0.heap.size,4,none⟩=some _:=hblk.cell 4;have HB:=Hd hb1;have HBL:=Hd hblk;clear h1 h1' h2 h3 h4 hb1 hblk hln hlm hlt hlr e2 e4 hus;by_cases g1:8<ln
 ·have g1':(8:Int)<(ln:Int):=by omega
  have g1d:decide (8<(ln:Int))=true:=by simp;omega
  go_enter Tryz.func99,Tryz.ntmps99
  go_wp2_with fail
  go_ret
  exact Says.no HB.out
 by_cases g2:12<lm
 ·have g1':¬(8:Int)<(ln:Int):=by omega
  have g1d:decide (8<(ln:Int))=false:=by simp;omega
  have g2':(12:Int)<(lm:Int):=by omega
  have g2d:decide (12<(lm:Int))=true:=by simp;omega
  go_enter Tryz.func99,Tryz.ntmps99
  go_wp2_with fail
  go_ret
  exact Says.no HB.out
 by_cases g3:40<lt
 ·have g1':¬(8:Int)<(ln:Int):=by omega
  have g1d:decide (8<(ln:Int))=false:=by simp;omega
  have g2':¬(12:Int)<(lm:Int):=by omega
  have g2d:decide (12<(lm:Int))=false:=by simp;omega
  have g3':(40:Int)<(lt:Int):=by omega
  have g3d:decide (40<(lt:Int))=true:=by simp;omega
  go_enter Tryz.func99,Tryz.ntmps99
  go_wp2_with fail
  go_ret
  exact Says.no HB.out
 by_cases g4:1100<lr
 ·have g1':¬(8:Int)<(ln:Int):=by omega
  have g1d:decide (8<(ln:Int))=false:=by simp;omega
  have g2':¬(12:Int)<(lm:Int):=by omega
  have g2d:decide (12<(lm:Int))=false:=by simp;omega
  have g3':¬(40:Int)<(lt:Int):=by omega
  have g3d:decide (40<(lt:Int))=false:=by simp;omega
  have g4':(1100:Int)<(lr:Int):=by omega
  have g4d:decide (1100<(lr:Int))=true:=by simp;omega
  go_enter Tryz.func99,Tryz.ntmps99
  go_wp2_with fail
  go_ret
  exact Says.no HB.out
 have g1':¬(8:Int)<(ln:Int):=by omega
 have g1d:decide (8<(ln:Int))=false:=by simp;omega
 have g2':¬(12:Int)<(lm:Int):=by omega
 have g2d:decide (12<(lm:Int))=false:=by simp;omega
 have g3':¬(40:Int)<(lt:Int):=by omega
 have g3d:decide (40<(lt:Int))=false:=by simp;omega
 have g4':¬(1100:Int)<(lr:Int):=by omega
 have g4d:decide (1100<(lr:Int))=false:=by simp;omega
 have hn8:(ln:Int)<=8:=by omega
 have ht40:(lt:Int)<=40:=by omega
 go_enter Tryz.func99,Tryz.ntmps99
 go_wp2
 go_loopw [3] (fun i wr=>∃k:Nat,k<=ln/\i=.int .i64 k/\Below W1.heap.size W1 wr/\∀j (h:j<r.names.length),j<k->Nm.few r.names[j]=true) (fun i _=>ln-(intOf i).toNat)
 case atStart=>exact⟨0,Nat.zero_le _,rfl,Below.refl _ _,fun j _ h=>by omega⟩
 case round =>
  obtain⟨k,hk,rfl,hb,hall⟩:=hrel;have q1:wr.cell? ⟨w0.heap.size,1,none⟩=some _:=(HBL.out.below hb).cell 1;have q3:wr.cell? ⟨w0.heap.size,3,none⟩=some _:=(HBL.out.below hb).cell 3;have HA:=Hd hall;clear hall d1 d2 d3 d4 hW1;by_cases hlt:k<ln
  ·have hlz:(k:Int)<(ln:Int):=by omega
   have hku:k<us.length:=by rw[HUS.out];exact hlt
   have hkn:k<r.names.length:=by rw[HL.out.1];exact hlt
   obtain⟨a,rfl,y1⟩:=H1.out.cells _ (Z5 HB.out hb) k hku;obtain⟨v,hv⟩:=Zq (us[k]);rw[hv] at y1;have hrd:Rd v r.names[k] wr:=by rw[<-hv];exact (H1'.out k hku hkn).below (Z5 HB.out hb)
   obtain⟨o5,c5,rfl,_,_⟩:=hrd.form;have HF:=Hd (few_any _ _ _ hrd);obtain⟨bz,hbz⟩:=Zq (Nm.few r.names[k]);have HBZ:=Hd hbz;rw[hbz] at HF;clear hrd hv hbz;go_wp2_with fail
   refine HF.out.mono ?_;rintro e w5 ⟨rfl,b5⟩;cases bz with
   | true =>
    have hb5:=Z5 hb b5;clear b5 hb;go_wp2_with fail
    refine⟨⟨k+1,hlt,by go_num,hb5,fun j hj hjk=>?_⟩,by simp[intOf];omega⟩
    rcases Nat.lt_succ_iff_lt_or_eq.1 hjk with h|h
    ·exact HA.out j hj h
    ·subst h;exact HBZ.out
   | false =>
    have hb5:=Z5 (Z5 HB.out hb) b5;clear b5 hb;go_wp2_with fail
    go_ret
    exact Says.no hb5
  ·have hlz:¬((k:Int)<(ln:Int)):=by omega
   have HN:=Hd (all_of (p:=fun n=>Nm.few n=true) (l:=r.names) (fun j hj=>HA.out j hj (by have:=HL.out.1;omega)))
   have HBB:=Hd hb;go_wp2
   go_loopw [4] (fun i wx=>∃k:Nat,k<=lt/\i=.int .i64 k/\wx=wr/\∀j (h:j<r.texts.length),j<k->r.texts[j].length<=300) (fun i _=>lt-(intOf i).toNat)
   case atStart=>exact⟨0,Nat.zero_le _,rfl,rfl,fun j _ h=>by omega⟩
   case round =>
    obtain⟨k',hk',rfl,rfl,hall⟩:=hrel;have HA':=Hd hall;clear hall;by_cases hlt':k'<lt
    ·have hlz':(k':Int)<(lt:Int):=by omega
     have hkt:k'<r.texts.length:=by rw[HL.out.2.2.1];exact hlt'
     obtain⟨a,rfl,y1⟩:=H3.out _ (Z5 HB.out HBB.out) k' hkt;obtain⟨m,hm⟩:=Zq (r.texts[k'].length);obtain⟨tx,htx⟩:=Zq (r.texts[k']);have HM:=Hd hm;rw[htx] at y1 hm;clear htx;by_cases g5:300<m
     ·have g5':(300:Int)<(m:Int):=by omega
      have g5d:decide (300<(m:Int))=true:=by simp;omega
      have g5n:decide (300<m)=true:=by simp;omega
      go_wp2_with fail
      go_ret
      exact Says.no (Z5 HB.out HBB.out)
     ·have g5':¬(300:Int)<(m:Int):=by omega
      have g5d:decide (300<(m:Int))=false:=by simp;omega
      have g5n:decide (300<m)=false:=by simp;omega
      go_wp2_with fail
      refine⟨⟨k'+1,hlt',by go_num,by trivial,fun j hj hjk=>?_⟩,by simp[intOf];omega⟩
      rcases Nat.lt_succ_iff_lt_or_eq.1 hjk with h|h
      ·exact HA'.out j hj h
      ·subst h;rw[HM.out];omega
    ·have hlz':¬((k':Int)<(lt:Int)):=by omega
     have HT:=Hd (all_of (p:=fun n=>n.length<=300) (l:=r.texts) (fun j hj=>HA'.out j hj (by have:=HL.out.2.2.1;omega)))
     go_wp2
     go_ret
     obtain⟨l1,l2,l3,l4⟩:=HL.out;exact⟨true,rfl,fun _=>⟨by omega,by omega,by omega,by omega,HN.out,HT.out⟩,Z5 HB.out HBB.out⟩
structure RF (l:List RP):Prop where
 len:l.length<=60
 owner:∀x∈l,Nm.few x.2.owner=true
 dat:∀x∈l,DF x.2
theorem RecsRd.el' {o:Option Addr} {n cap:Nat} {l:List RP} {W:World} (h:RecsRd (.slice o n cap) l W):∀W',Below W.heap.size W W'->∀(i:Nat) (hi:i<l.length) (c0 c1 c2 c3 c4 c5 c6:Value),l[i].1=[c0,c1,c2,c3,c4,c5,c6]->∃a,o=some a/\Bxa7 (a.add (i*7)) c0 c1 c2 c3 c4 c5 c6 W':=by
 intro W' hb i hi c0 c1 c2 c3 c4 c5 c6 hx;have h7:∀x∈l,x.1.length=7:=fun x hx=>(h.1 x hx).len
 obtain⟨_,o',cap',h1,h2,h3,h4,h5⟩:=h.kept hb;cases h1;have hk:∀c,c<7->∃a,o=some a/\W'.cell? (a.add (i*7+c))=(l[i].1)[c]?:=fun c hc=>by
  have hl:i*7+c<(encP l).length:=by rw[encP_len h7];omega
  obtain⟨a,ha,hcell⟩:=h5 _ hl;refine⟨a,ha,?_⟩;rw[hcell,<-encP_get h7 i c hi hc,zN hl]
 obtain⟨a,ha,k0⟩:=hk 0 (by omega)
 have hk':∀c,c<7->W'.cell? (a.add (i*7+c))=(l[i].1)[c]?:=fun c hc=>by
  obtain⟨a',ha',h⟩:=hk c hc;rw[ha] at ha';cases ha';exact h
 rw[hx] at hk';exact⟨a,ha,hk' 0 (by omega),by rw[<-addr7 a _ 1 (by omega)];exact hk' 1 (by omega),by rw[<-addr7 a _ 2 (by omega)];exact hk' 2 (by omega),by rw[<-addr7 a _ 3 (by omega)];exact hk' 3 (by omega),by rw[<-addr7 a _ 4 (by omega)];exact hk' 4 (by omega),by rw[<-addr7 a _ 5 (by omega)];exact hk' 5 (by omega),by rw[<-addr7 a _ 6 (by omega)];exact hk' 6 (by omega)⟩
theorem RecRd.cells {vs:List Value} {r:Rc.PRec} {W:World} (h:RecRd vs r W):∃p0 n0 q0 p1 n1 q1 p2 n2 q2 p3 n3 q3 p4 n4 q4,vs=[.slice p0 n0 q0,.int .u32 (r.ttl:Int),.int .i64 r.type,.slice p1 n1 q1,.slice p2 n2 q2,.slice p3 n3 q3,.slice p4 n4 q4]/\Rd (.slice p0 n0 q0) r.owner W/\DatRd [.int .i64 r.type,.slice p1 n1 q1,.slice p2 n2 q2,.slice p3 n3 q3,.slice p4 n4 q4] r W:=by
 obtain⟨vo,ds,h0,ho,hd⟩:=h;obtain⟨p0,q0,rfl,_⟩:=id ho;obtain⟨vn,vm,vt,vr,rfl,⟨us,_,⟨p1,q1,rfl,_⟩,_⟩,⟨p2,q2,rfl,_⟩,⟨p3,q3,rfl,_⟩,⟨p4,q4,rfl,_⟩⟩:=id hd;exact⟨_,_,_,_,_,_,_,_,_,_,_,_,_,_,_,h0,ho,hd⟩
set_option maxHeartbeats 1000000 in
theorem few5_any (v:Value) (l:List RP) (w0:World) (hv:RecsRd v l w0) :
  Calls Tryz.prog 71 #[v] w0 (Says (RF l) w0):=by
 obtain⟨h0,o,cap,rfl,hc1,hc2,_⟩:=id hv;have HV:=Hd hv.el';have H0:=Hd h0;unfold maxLen at hc2;clear hv h0;by_cases g1:60<l.length
 ·have g1':(60:Int)<(l.length:Int):=by omega
  go_enter Tryz.func71,Tryz.ntmps71
  go_wp2
  go_ret
  exact Says.no (Below.refl _ _)
 have g1':¬(60:Int)<(l.length:Int):=by omega
 have g60:(l.length:Int)<=60:=by omega
 go_enter Tryz.func71,Tryz.ntmps71
 go_wp2
 go_loopw [3] (fun i wr=>∃k:Nat,k<=l.length/\i=.int .i64 k/\Below w0.heap.size w0 wr/\∀j (h:j<l.length),j<k->Nm.few l[j].2.owner=true/\DF l[j].2) (fun i _=>l.length-(intOf i).toNat)
 case atStart=>exact⟨0,Nat.zero_le _,rfl,Below.refl _ _,fun j _ h=>by omega⟩
 case round =>
  obtain⟨k,hk,rfl,hb,hall⟩:=hrel;have HA:=Hd hall;clear hall;by_cases hlt:k<l.length
  ·have hlz:(k:Int)<(l.length:Int):=by omega
   obtain⟨x,hx⟩:=Zq (l[k]);have hxr:=H0.out x (by rw[<-hx];exact List.getElem_mem _)
   obtain⟨p0,n0,q0,p1,n1,q1,p2,n2,q2,p3,n3,q3,p4,n4,q4,ex,hro,hrd⟩:=hxr.cells;have HY:Hid (∀W',Below w0.heap.size w0 W'->∃a,o=some a/\Bxa7 (a.add (k*7)) (.slice p0 n0 q0) (.int .u32 (x.2.ttl:Int)) (.int .i64 x.2.type) (.slice p1 n1 q1) (.slice p2 n2 q2) (.slice p3 n3 q3) (.slice p4 n4 q4) W'):=fun W' hW=>HV.out W' hW k hlt _ _ _ _ _ _ _ (by rw[hx];exact ex)
   obtain⟨a,rfl,e0,e1,e2,e3,e4,e5,e6⟩:=HY.out _ hb;have HF:=Hd (few_any _ _ _ (hro.below hb));have HD:=Hd (fun W' (h:Below w0.heap.size w0 W')=>few4_any _ _ _ (hrd.below h))
   have HX:=Hd hx;obtain⟨bz,hbz⟩:=Zq (Nm.few x.2.owner);have HBZ:=Hd hbz;rw[hbz] at HF;clear hbz hx ex hro hrd hxr;cases bz with
   | false =>
    go_wp2_with fail
    refine HF.out.mono ?_;rintro e w5 ⟨rfl,b5⟩;have hb5:=Z5 hb b5;clear b5 hb;go_wp2_with fail
    go_ret
    exact Says.no hb5
   | true =>
    go_wp2_with fail
    refine HF.out.mono ?_;rintro e w5 ⟨rfl,b5⟩;have hb5:=Z5 hb b5;obtain⟨a',ha',y0,y1,y2,y3,y4,y5,y6⟩:=HY.out _ hb5;cases ha';have HD5:=Hd (HD.out _ hb5);clear b5 hb e0 e1 e2 e3 e4 e5 e6;go_wp2_with fail
    refine HD5.out.mono ?_;rintro e w6 ⟨b,rfl,hq,b6⟩;have hb6:=Z5 hb5 b6;have HQ:=Hd hq;clear b6 hb5 hq y0 y1 y2 y3 y4 y5 y6;cases b with
    | true =>
     go_wp2_with fail
     refine⟨⟨k+1,hlt,by go_num,hb6,fun j hj hjk=>?_⟩,by simp[intOf];omega⟩
     rcases Nat.lt_succ_iff_lt_or_eq.1 hjk with h|h
     ·exact HA.out j hj h
     ·subst h;rw[HX.out];exact⟨HBZ.out,by first|exact HQ.out rfl|exact HQ.out trivial|exact HQ.out⟩
    | false =>
     go_wp2_with fail
     go_ret
     exact Says.no hb6
  ·have hlz:¬((k:Int)<(l.length:Int)):=by omega
   have HN:=Hd (all_of (p:=fun x:RP=>Nm.few x.2.owner=true/\DF x.2) (l:=l) (fun j hj=>HA.out j hj (by omega)))
   go_wp2
   go_ret
   exact⟨true,rfl,fun _=>⟨by omega,fun x hx=>(HN.out x hx).1,fun x hx=>(HN.out x hx).2⟩,hb⟩
end
end Go.Proofs.YtgmbefolgppmdaaGreat
