/- What a round keeps, told by the types of the blocks; rset.Sets and rset.Targets with the types of their rows. -/
import Derived.Test.YtgmbefolgppmdaaGreatLEgH
import Derived.Test.YtgmbefolgppmdaaGreatLGdE
import Derived.Test.YtgmbefolgppmdaaGreatLAli
import Derived.Test.YtgmbefolgppmdaaGreatLReg
namespace Go.Proofs.YtgmbefolgppmdaaGreat
set_option maxRecDepth 100000
section
open Go.RowKit Go.Shelf Go.Sort
attribute [local go_sem] Oper.semAt_some
def keepT (T:TypeId->Prop) (A B:World):Prop:=∀(k:Nat) (c:Array Value) (t:TypeId) (f:Nat × Nat),A.heap[k]? = some (Obj.cells c t f)->¬T t->B.heap[k]? = some (Obj.cells c t f)
theorem keepT.refl (T:TypeId->Prop) (A:World):keepT T A A:=fun _ _ _ _ h _=>h
theorem keepT.trans {T:TypeId->Prop} {A B C:World} (h:keepT T A B) (k:keepT T B C):keepT T A C:=fun i c t f hi ht=>k i c t f (h i c t f hi ht) ht
theorem keepT.of_cells {T:TypeId->Prop} {A B:World} (h:CellsKept A B):keepT T A B:=fun k c t f hk _=>h k c t f hk
theorem keepT.below {T:TypeId->Prop} {A B:World} (h:Below A.heap.size A B):keepT T A B:=.of_cells (CellsKept.below h)
theorem keepT.put {T:TypeId->Prop} {A:World} {L:Nat} {r:Loop} (hr:A.heap[L]? = some (.loop r)) (o:Obj):keepT T A (A.putObj L o):=.of_cells (CellsKept.put hr o)
theorem keepT.set {T:TypeId->Prop} {A:World} {b o:Nat} (u:Value) (h:∃c t f,A.heap[b]? = some (Obj.cells c t f)/\T t):keepT T A (A.setCell ⟨b,o,none⟩ u):=fun k c t f hk ht=>by
 obtain⟨c',t',f',h1,h2⟩:=h;exact (Below.heap_setCell _ _ _ _ (fun e=>by have e:k=b:=e;rw[e,h1] at hk;cases hk;exact ht h2)).trans hk
theorem keepT.grown {T:TypeId->Prop} {A B:World} {row:Option Nat} (h:A.grownBy B row) (hr:∀g,row=some g->∃c t f,A.heap[g]? = some (Obj.cells c t f)/\T t):keepT T A B:=fun k c t f hk ht=>by
 refine (h.block k (Array.getElem?_eq_some_iff.1 hk).1 (fun e=>?_)).trans hk
 obtain⟨c',t',f',h1,h2⟩:=hr k e.symm;rw[h1] at hk;cases hk;exact ht h2
def Ty (v:Value) (t:TypeId) (W:World):Prop:=∀o n c,v=.slice o n c->∀a,o=some a->∃cs f,W.heap[a.block]? = some (Obj.cells cs t f)
theorem Ty.keep {T:TypeId->Prop} {v:Value} {t:TypeId} {A B:World} (h:Ty v t A) (ht:¬T t) (k:keepT T A B):Ty v t B:=fun o n c e a ha=>by
 obtain⟨cs,f,h1⟩:=h o n c e a ha;exact⟨cs,f,k _ _ _ _ h1 ht⟩
theorem GRd.keepTy {T:TypeId->Prop} {k:Nat} {v:Value} {t:TypeId} {l:List (List Value)} {A B:World} (h:GRd k v l A) (hy:Ty v t A) (ht:¬T t) (hk:keepT T A B):GRd k v l B:=by
 obtain⟨o,cap,h1,h2,h3,h4,h5,h6⟩:=h;refine⟨o,cap,h1,h2,h3,h4,h5,fun i hi c hc=>?_⟩
 obtain⟨a,ha,e⟩:=h6 i hi c hc;obtain⟨cs,f,hb⟩:=hy _ _ _ h1 a ha;exact⟨a,ha,(World.cell?_of_block (by rw[add_block,hb];exact hk _ _ _ _ hb ht)).trans e⟩
theorem DatsRd.keepTy {T:TypeId->Prop} {w:World} {v:Value} {t:TypeId} {l:List (El w)} {A B:World} (h:DatsRd v l A) (hy:Ty v t A) (ht:¬T t) (hk:keepT T A B):DatsRd v l B:=by
 obtain⟨o,cap,h1,h2,h3,h4,h5⟩:=h;refine⟨o,cap,h1,h2,h3,h4,fun j hj=>?_⟩
 obtain⟨a,ha,e⟩:=h5 j hj;obtain⟨cs,f,hb⟩:=hy _ _ _ h1 a ha;exact⟨a,ha,(World.cell?_of_block (by rw[add_block,hb];exact hk _ _ _ _ hb ht)).trans e⟩
def DTy (cs:List Value) (W:World):Prop:=∀po t tt v,cs=[po,t,tt,v]->Ty v 107 W
theorem SetC.keepTy {T:TypeId->Prop} {w:World} {cs:List Value} {k:List (El w)} {A B:World} (h:SetC cs k A) (hy:DTy cs A) (ht:¬T 107) (hk:keepT T A B):SetC cs k B/\DTy cs B:=by
 obtain⟨x,xs,po,no,qo,od,cd,h1,h2,h3,h4⟩:=h;exact⟨⟨x,xs,po,no,qo,od,cd,h1,h2,h3,h4.keepTy (hy _ _ _ _ h2) ht hk⟩,fun po t tt v e=>(hy po t tt v e).keep ht hk⟩
def SetsTy {w:World} (v:Value) (ks:List (List (El w))) (W:World):Prop :=
 ∃css,GRd 4 v css W/\css.length=ks.length/\(∀i (h:i<css.length) (h':i<ks.length),SetC css[i] ks[i] W/\DTy css[i] W)/\Ty v 89 W
theorem SetsTy.keepTy {T:TypeId->Prop} {w:World} {v:Value} {ks:List (List (El w))} {A B:World} (h:SetsTy v ks A) (h1:¬T 89) (h2:¬T 107) (hk:keepT T A B):SetsTy v ks B:=by
 obtain⟨css,a1,a2,a3,a4⟩:=h;exact⟨css,a1.keepTy a4 h1 hk,a2,fun i hi hi'=>(a3 i hi hi').1.keepTy (a3 i hi hi').2 h2 hk,a4.keep h1 hk⟩
set_option maxHeartbeats 1000000 in
theorem clipSets3_any (o:Option Addr) (n cap:Nat) (css:List (List Value)) (W:World) (hv:GRd 4 (.slice o n cap) css W) (hn:css.length<=1000000) :
  Calls Tryz.prog 78 #[.slice o n cap] W fun e w'=>∃c',e=.returned (.slice o n c')/\GRd 4 (.slice o n c') css W/\w'=W:=by
 obtain⟨o,cap,e0,h1,h2,h3,h4,h5⟩:=hv;cases e0;have n1:(css.length:Int)<=1000000:=by omega
 have h2':=h2;unfold maxLen at h2;have HO:=Hd (show o=none->css.length=0 from fun h=>by have:=h3 h;omega)
 have H2:=Hd h2';have H4:=Hd h4;have H5:=Hd h5;clear h3 h4 h5 h2'
 go_enter Tryz.func78,Tryz.ntmps78
 go_wp2_with fail
 go_ret
 exact⟨css.length,rfl,⟨o,css.length,rfl,Zh _,by have:=H2.out;omega,HO.out,H4.out,H5.out⟩,rfl⟩
section
variable {w:World}
def SetsR3 (l:List (El w)) (w0:World) (e:Ending) (w':World):Prop :=
 ∃(c:List (El w)) (v:Value),plE c=Rc.canon (plE l)/\c.length<=l.length/\e=.returned v/\SetsTy v (grp c) w'/\Below w0.heap.size w0 w'
set_option maxHeartbeats 4000000 in
theorem rsets3_any {w0:World} (vr:Value) (l:List (El w)) (hb0:Below w.heap.size w w0) (hv:RecsRd vr (l.map (·.1)) w0) (na:l.length<=1000) :
  Calls Tryz.prog 51 #[vr] w0 (SetsR3 l w0):=by
 obtain⟨ov,cv,rfl⟩:∃o cap,vr=.slice o l.length cap:=by obtain⟨_,o,cap,h,_⟩:=hv;exact⟨o,cap,by rw[h,Zf]⟩
 obtain⟨W1,hW1⟩:=Zq (w0.alloc (.cells #[.slice none 0 0] 132));have hb1:Below w0.heap.size w0 W1:=by rw[<-hW1];exact Zr
 have bx1:Box w0.heap.size 132 (.slice none 0 0) W1:=by rw[<-hW1];exact Box.new w0 _ _
 have s1:W1.heap.size=w0.heap.size+1:=by rw[<-hW1];simp
 have hbw:=Z5 hb0 hb1;have hrd:RecsRd (.slice ov l.length cv) (l.map (·.1)) W1:=hv.kept hb1;have HCN:=Hd (canon_any (.slice ov l.length cv) (l.map (El.up hbw)) (by rw[up_fst];exact hrd) (by rw[Zf];exact na))
 have HPL:=Hd (up_pl hbw l);have HUP:Hid (∀y∈l.map (El.up hbw),RecRd y.1.1 y.1.2 w):=fun y hy=>by
  obtain⟨z,_,rfl⟩:=List.mem_map.1 hy;exact z.2.1
 have HBW:=Hd hbw;have HB1:=Hd hb1;have BX1:=Hd bx1;have HW1:=Hd hW1;clear hv hb1 bx1 hrd hW1;refine (zF (n:=0)).1 ?_;refine callsIn_of_wp_marks Tryz.func51 rfl trivial ?_ rfl;simp only[Tryz.ntmps51,Zo,Ze,Zg,Nat.reduceAdd,Nat.reduceSub,Zi,Zj,Zk,Zl,Zm,Zp];gi_wp2_with (gi_at_call 67;rw[HW1.out];refine (callsIn_wide.2 HCN.out).mono ?_;rintro e w1 ⟨v1,l1,rfl,r1,p1,n1,b1,fr1,el1⟩)
 obtain⟨c',d1,d2,d3⟩:=down_list (w:=w) l1 (fun x hx=>el1 x hx w HUP.out)
 obtain⟨o',cap',rfl⟩:∃o c,v1=.slice o l1.length c:=by obtain⟨_,o,c,h,_⟩:=r1;exact⟨o,c,by rw[h,Zf]⟩
 rw[<-d1,<-d3] at r1;rw[<-d3] at fr1;have hcp:plE c'=Rc.canon (plE l):=by rw[d2,p1,HPL.out]
 have hcl:c'.length<=l.length:=by rw[d3];have:=n1;rw[Zf] at this;omega
 have HCP:=Hd hcp;have HCL:=Hd hcl;have hsz1:w0.heap.size+1<=w1.heap.size:=by have:=b1.size;omega
 have hbw1:Below w.heap.size w w1:=Z5 HBW.out b1;have bx2:=BX1.out.below b1;have hoo:∀a,o'=some a->0<c'.length->a.block<w1.heap.size/\w0.heap.size<a.block:=fun a ha hp=>by
  have h0:=fr1 a.block (by rw[ha];rfl)
  obtain⟨_,o2,c2,e1,_,_,_,e5⟩:=r1;rw[Zf] at e1;cases e1;obtain⟨a2,ha2,hc2⟩:=e5 0 (by rw[encP_map,flat_len encE 7 encE_len];omega)
  rw[ha] at ha2;cases ha2;have:=zG hc2
  rw[add_block] at this;exact⟨this,by omega⟩
 have HR1:=Hd r1;have HB1':=Hd (Z5 HB1.out b1);have BX2:=Hd bx2;rw[<-d3];clear r1 p1 n1 fr1 el1 d1 d2 d3 hcp b1 hcl bx2 HCN BX1;gi_wp2_with (gi_at_call 77;refine (callsIn_wide.2 (setsCall_any _ _ _ _)).mono ?_;rintro e ws ⟨rfl,hws⟩)
 have hbs:Below w1.heap.size w1 ws:=by rw[<-hws];exact Zr
 have hss:ws.heap.size=w1.heap.size+1:=by rw[<-hws];simp
 have hAt:SetsAt (fun b=>b<ws.heap.size/\b≠w0.heap.size) w1.heap.size c' ws:=by
  refine⟨⟨o',cap',?_,HR1.out.kept hbs,fun a ha hp=>?_⟩,Z5 hbw1 hbs⟩
  ·rw[<-hws];exact Box.new w1 _ _
  ·have:=hoo a ha hp
   exact⟨⟨by omega,by omega⟩,by omega⟩
 have hMs:SetsM (w:=w) w0.heap.size w1.heap.size w0 ws [] ws:=⟨⟨[],.slice none 0 0,BX2.out.below hbs,Row.nil _ _ _ _,rfl,fun i h=>by simp at h⟩,Z5 HB1'.out hbs,Zh _⟩
 have hwb:w.heap.size<=w1.heap.size:=hbw1.size;have HBW1:=Hd hbw1;clear hws hbs hoo hbw1;refine rf_outer rfl (enters_of Tryz.func103 (by kernel_rfl) rfl) (sets1_iter (fun b=>b<ws.heap.size/\b≠w0.heap.size) w1.heap.size hwb (by constructor<;>omega) c' (by have:=HCL.out;omega))
  (fun A B h=>h.others) (fun A B C h k=>setKp.trans h k) (fun A ob=>setKp.put (by omega) (by omega) A ob)
  (fun _ _ _ _ h=>by obtain⟨_,_,_,_,_,_,_,_,_,_,h,_⟩:=h;subst h;rfl)
  (fun k W=>∃gs,Hid (grp c'=gs++grp k)/\gs.length+k.length<=c'.length/\SetsM w0.heap.size w1.heap.size w0 ws gs W) (fun _ _=>False)
  (fun _ _ _ h e=>by obtain⟨gs,h1,h2,h3⟩:=h;exact⟨gs,h1,h2,h3.st e (by omega) (by omega)⟩) (fun _ _ _ h e=>h)
  (fun _ A r ob h hr=>by obtain⟨gs,h1,h2,h3⟩:=h;exact⟨gs,h1,h2,h3.put (by omega) (by omega) hr ob⟩) (fun _ A r ob h hr=>h)
  (fun r=>⟨[],rfl,by simp,?start⟩) (fun r=>?pre) ?round ?done (fun _ _ h=>h.elim)
 case start=>exact hMs.on ((Zr).alloc (by simp) _) (by omega)
 case pre=>exact hAt.on ((Zr).alloc (by simp) _)
 case round =>
  rintro lp k k' v W ⟨gs,hgs,hgl,hM⟩ ⟨x,xs,n,rfl,hn,hle,rfl,vo,od,cd,rfl,hvo,hdt,hne⟩;obtain⟨css,vq,q1,q2,q3,q4⟩:=hM.ob;obtain⟨ov',cv',rfl,_,_⟩:=hvo.form;obtain⟨tt,htt⟩:∃tt,Rs.ttl x.1.2 (plE ((x::xs).take n))=tt:=⟨_,rfl⟩;rw[htt];have HTT:=Hd htt;have HN:=Hd hn;have HVO:=Hd hvo;have HNE:=Hd hne;have HLE:=Hd hle;have HGS:=Hd hgs;have HDT:=Hd hdt;have HQ1:=Hd q1;have HQ2:=Hd q2;have HQ3:=Hd q3;have HQ4:=Hd q4;have HMB:=Hd hM.below;have hMsz:=hM.size;obtain⟨oq,nq,cq,rfl⟩:∃o n c,vq=.slice o n c:=by obtain⟨a,c,h⟩:=q2.form;exact⟨_,_,_,h⟩
  obtain⟨ln,hln⟩:=Zq x.1.2.owner.length;rw[hln] at HVO ⊢;obtain⟨Wa,hWa⟩:∃Wa,W.alloc (.cells #[.slice ov' ln cv',.int .i64 x.1.2.type,.int .u32 (tt:Int),.slice od n cd] 89)=Wa:=⟨_,rfl⟩;have hblk:Blk W.heap.size #[.slice ov' ln cv',.int .i64 x.1.2.type,.int .u32 (tt:Int),.slice od n cd] 89 Wa:=by rw[<-hWa];exact Blk.new W _ _
  have hba:Below W.heap.size W Wa:=by rw[<-hWa];exact Zr
  have HBA:=Hd hba;have HBK:=Hd hblk;have HWA:=Hd hWa;clear hvo htt hn hne hle hgs hdt q1 q2 q3 q4 hM hba hblk hWa hMs hAt hln;gi_wp2
  rw[HWA.out];refine⟨Z6 HBA.out,⟨keepH.of_below HBA.out (fun b hb=>by omega),fun h=>Z5 h HBA.out⟩,fun r ob hl hr=>?_⟩
  obtain⟨Wp,hWp⟩:=Zq (Wa.putObj (ws.heap.size+1) (.loop ob));have HPB:Hid (Box w0.heap.size 132 (.slice oq nq cq) Wp):=by show Box _ _ _ _;rw[<-hWp];exact (HQ1.out.below HBA.out).put hr (.loop ob)
  have HPK:Hid (Blk W.heap.size #[.slice ov' ln cv',.int .i64 x.1.2.type,.int .u32 (tt:Int),.slice od n cd] 89 Wp):=by show Blk _ _ _ _;rw[<-hWp];exact HBK.out.put hr (.loop ob)
  have HPR:Hid (Row (fun g=>ws.heap.size<=g) 89 4 (.slice oq nq cq) css.length css.flatten Wp):=by show Row _ _ _ _ _ _ _;rw[<-hWp];exact (HQ2.out.below HBA.out).put hr (.loop ob)
  have HPS:Hid (W.heap.size<Wp.heap.size):=by show _<_;exact HPK.out.lt
  have HPC:Hid (CellsKept W Wp):=by
   show CellsKept W Wp;rw[<-hWp];exact fun k c t f hk=>CellsKept.put hr (.loop ob) k c t f (CellsKept.below HBA.out k c t f hk)
  have HPW:Hid (Below w0.heap.size w0 Wp):=by show Below _ _ _;rw[<-hWp];exact below_put (HMB.out.trans (HBA.out.mono (by omega))) (by omega) hr (by have:=HBA.out.size;omega) (.loop ob)
  rw[hWp];have f0:Wp.cell? ⟨W.heap.size,0,none⟩=some _:=HPK.out.cell 0;have f1:Wp.cell? ⟨W.heap.size,1,none⟩=some _:=HPK.out.cell 1;have f2:Wp.cell? ⟨W.heap.size,2,none⟩=some _:=HPK.out.cell 2;have f3:Wp.cell? ⟨W.heap.size,3,none⟩=some _:=HPK.out.cell 3;have g0:=HPB.out.cell;clear hWp hr HBK HBA HWA;obtain⟨cs,hcs⟩:∃cs:List Value,[Value.slice ov' ln cv',.int .i64 x.1.2.type,.int .u32 (tt:Int),.slice od n cd]=cs:=⟨_,rfl⟩;obtain⟨Wq,hWq⟩:∃Wq,Wp.alloc (.cells #[.slice ov' ln cv',.int .i64 x.1.2.type,.int .u32 (tt:Int),.slice od n cd] 89)=Wq:=⟨_,rfl⟩;have HQC:Hid (CellsKept Wp Wq):=by show CellsKept _ _;rw[<-hWq];exact CellsKept.alloc Wp _
  have HQR:Hid (Row (fun g=>ws.heap.size<=g) 89 4 (.slice oq nq cq) css.length css.flatten Wq):=by show Row _ _ _ _ _ _ _;rw[<-hWq];exact HPR.out.alloc _
  have HQB:Hid (Below Wp.heap.size Wp Wq):=by show Below _ _ _;rw[<-hWq];exact Zr
  have HQG:Hid (GRd 4 (.slice (some ⟨Wp.heap.size,0,none⟩) 1 1) [cs] Wq):=by
   show GRd _ _ _ _;rw[<-hWq,<-hcs];exact GRd.new [.slice ov' ln cv',.int .i64 x.1.2.type,.int .u32 (tt:Int),.slice od n cd] rfl (by simp[Value.oneCell']) Wp 89
  have HQX:Hid (Box w0.heap.size 132 (.slice oq nq cq) Wq):=by show Box _ _ _ _;exact HPB.out.below HQB.out
  have HQS:Hid (ws.heap.size<=Wq.heap.size):=by have:=HQB.out.size;have:=HPS.out;show _<=_;omega
  have HCS:=Hd hcs;have HWQ:=Hd hWq;clear hcs hWq;have hgn:css.length+1<=100000:=by have h1:=HQ3.out;have h2:=HCL.out;simp only[Ze] at hgl;omega
  gi_wp2_with (gi_at_builtin;rw[HWQ.out];refine Z7 (fun g=>ws.heap.size<=g) 89 _ 4 64 info_set rfl (by decide) rfl _ _ _ Tryz.underlying132 rfl _ css.length css (by rfl) HQR.out _ [cs] (by rfl) HQG.out hgn (by omega) HQS.out ?_;intro v10 w10 hrow10 hgr10;obtain⟨a10,c10,e10⟩:=hrow10.form;subst e10;have hbx10:Box w0.heap.size 132 (.slice oq nq cq) w10:=(hgr10.block _ HQX.out.lt (fun e=>by have:=HQR.out.2 _ e.symm;omega)).trans HQX.out;have y0:=hbx10.cell;have y1:=hbx10.frozen;have HX10:=Hd hbx10;have HR10:=Hd hrow10;have HG10:=Hd hgr10;clear hbx10 hrow10 hgr10 f0 f1 f2 f3 g0)
  have hown:∀g,(Value.slice oq nq cq).ownBlock=some g->ws.heap.size<=g:=fun g hg=>HQR.out.2 g hg
  have hdk:∀u,DatKept w1.heap.size W (w10.setCell ⟨w0.heap.size,0,none⟩ u):=fun u =>
   (((DatKept.of_cells HPC.out).trans (.of_cells HQC.out)).trans (.grown HG10.out (fun g hg=>.inr (by
    obtain⟨c,f,h⟩:=HQR.out.typ hg;exact⟨c,_,f,h,by decide⟩)))).trans (.set (by omega) _ _)
  have hpos:0<n:=by rw[HN.out];exact run_posE x xs
  have hln:((x::xs).take n).length=n:=by rw[List.length_take];have:=HLE.out;omega
  refine⟨(Z6 HQB.out).trans ((HQR.out.keepsOthers HG10.out).trans (KeepsOthers.setCell _ _ _)),⟨fun b hb=>?_,fun h=>?_⟩,gs++[(x::xs).take n],?_,?_,⟨css++[cs],_,HX10.out.set _,?_,by simp[HQ3.out],fun i hi hi'=>?_⟩,?_,?_⟩
  ·refine (Below.heap_setCell _ _ _ _ hb.2).trans ?_
   have hlb:b<Wp.heap.size:=by have:=HPS.out;omega
   exact (HG10.out.block b (by have:=HQB.out.size;omega) (fun e=>by have:=hown b e.symm;omega)).trans (HQB.out.block b hlb)
  ·refine Below.setCell (p:=⟨w0.heap.size,0,none⟩) ?_ hb0.size _
   exact (Z5 h HQB.out).grown HG10.out (Z5 h HQB.out).size (fun g hg=>by have:=hown g hg;have:=hb0.size;omega)
  ·have h1:=HGS.out.out
   show grp c'=_;rw[h1,grp_cons,<-HN.out];simp
  ·have:=hgl
   simp only[Zb,Ze,Zg,List.length_drop] at this ⊢;have:=HLE.out;simp only[Ze] at this
   omega
  ·have:=(HR10.out.setOther (b:=w0.heap.size) (o:=0) (fun h=>by omega) (.slice a10 (css.length+[cs].length) c10))
   rw[Zb];exact this
  ·by_cases hlt:i<css.length
   ·rw[Zt hlt,Zt (by have:=HQ3.out;omega)]
    exact (HQ4.out i hlt (by have:=HQ3.out;omega)).keep (hdk _)
   ·have hi2:i=css.length:=by simp at hi;omega
    subst hi2;rw[Zs (Zh _),Zs (by have:=HQ3.out;omega)]
    simp only[Nat.sub_self,HQ3.out,List.getElem_cons_zero];obtain⟨m,rfl⟩:∃m,n=m+1:=⟨n-1,by omega⟩
    have hT:SetT w1.heap.size cs ((x::xs).take (m+1)) W:=by
     refine⟨⟨x,xs.take m,ov',ln,cv',od,cd,by rw[List.take_succ_cons],?_,HVO.out,by rw[hln];exact HDT.out⟩,fun po t tt' od' n' cd' e a ha=>?_⟩
     ·rw[<-HCS.out,hln,HTT.out]
     ·rw[<-HCS.out] at e
      cases e;exact HNE.out a ha
    exact hT.keep (hdk _)
  ·refine Below.setCell (p:=⟨w0.heap.size,0,none⟩) ?_ (Zh _) _
   exact (Z5 HPW.out HQB.out).grown HG10.out (Z5 HPW.out HQB.out).size (fun g hg=>by have:=hown g hg;omega)
  ·have h1:=HG10.out.size;have h2:=HQS.out
   show ws.heap.size<=_;simpa[World.setCell] using Nat.le_trans h2 h1
 case done =>
  rintro k W rfl ⟨gs,hgs,hgl,hM⟩ hKd;obtain⟨css,vq,q1,q2,q3,q4⟩:=id hM.ob;obtain⟨oq,cq,hvq⟩:=q2.form;subst hvq;have hrd:GRd 4 (.slice oq css.length cq) css W:=q2.grd (fun x hx=>by
   obtain⟨i,hi,rfl⟩:=List.mem_iff_getElem.1 hx;exact (q4 i hi (by omega)).1.ok)
  have hge:gs=grp c':=by
   have h1:=hgs.out;rw[h1];simp[grp,grpE]
  rw[hge] at q3 q4;have HQ4:Hid (css.length=(grp c').length/\∀i (h:i<css.length) (h':i<(grp c').length),SetC css[i] (grp c')[i] W/\DTy css[i] W):=⟨q3,fun i h h'=>⟨(q4 i h h').1,fun po t tt v e o n c ev a ha=>by
   subst ev;obtain⟨_,cur,f,hb⟩:=(q4 i h h').2 po t tt o n c e a ha;exact⟨cur,f,hb⟩⟩⟩
  have hfr:∀a,oq=some a->∃c f,W.heap[a.block]? = some (.cells c 89 f):=fun a ha=>by
   subst ha;exact q2.typ rfl
  have HFR:=Hd hfr;have HCLP:=Hd (clipSets3_any _ _ _ _ W hrd (by rw[q3,<-hge];simp only[Zg] at hgl;have:=HCL.out;omega))
  have g0:=q1.cell;have HM:=Hd hM;have HKD:=Hd hKd;clear hM hKd hrd q1 q2 q3 q4 hgs hMs hAt hge hfr;gi_wp2_with fail
  refine (callsIn_wide.2 HCLP.out).mono ?_;rintro e W5 ⟨c5,rfl,hr5,rfl⟩;have HR5:=Hd hr5;clear hr5;gi_wp2_with fail
  have hK5:=HKD.out;rw[hss] at hK5;have hMb:=HM.out.below;have hMz:=HM.out.size;refine leaveD rfl hK5 (results_tmp rfl _ _ _) ?_;have hck:=CellsKept.putD hK5 (.deferred none);refine⟨c',_,HCP.out,HCL.out,rfl,⟨css,HR5.out.cells_kept hck,HQ4.out.1,fun i hi hi'=>⟨(HQ4.out.2 i hi hi').1.keep hck,fun po t tt v e=>((HQ4.out.2 i hi hi').2 po t tt v e).keep (T:=fun _=>False) id (.of_cells hck)⟩,fun o n c e a ha=>?_⟩,below_putD hMb (by omega) (by omega) _⟩
  cases e;obtain⟨c,f,h⟩:=HFR.out a ha;exact⟨c,f,hck _ _ _ _ h⟩
end
set_option maxHeartbeats 1000000 in
theorem clipNms3_any (v:Value) (xs:List Value) (R:Nat->Prop) (w:World) (hrow:Row R 38 1 v xs.length xs w) (hn:xs.length<=1000000) :
  Calls Tryz.prog 37 #[v] w fun e w'=>∃v',e=.returned v'/\Sl v' xs w/\Ty v' 38 w/\w'=w:=by
 have hty:Ty v 38 w:=fun o n c e a ha=>by
  subst e;subst ha;obtain⟨⟨_,ho⟩,_⟩:=id hrow;rcases ho with⟨e0,_⟩|⟨g,cap',cur,e0,_,hg,_⟩
  ·cases e0
  ·cases e0;exact⟨_,_,hg⟩
 obtain⟨o,cap,rfl,h1,h2,h3,h4⟩:=Row.sl hrow;have h2':=h2;unfold maxLen at h2;have n1:(xs.length:Int)<=1000000:=by omega
 have HO:=Hd (show o=none->xs.length=0 from fun h=>by have:=h3 h;omega)
 have H4:=Hd h4;have H2:=Hd h2';have HTY:Hid (∀a,o=some a->∃cs f,w.heap[a.block]? = some (Obj.cells cs 38 f)):=fun a ha=>hty _ _ _ rfl a ha
 clear h3 h4 hrow h2' hty
 go_enter Tryz.func37,Tryz.ntmps37
 go_wp2_with fail
 go_ret
 exact⟨.slice o xs.length xs.length,rfl,⟨o,xs.length,rfl,Zh _,by have:=H2.out;omega,HO.out,H4.out⟩,(fun o' n c e a ha=>by cases e;exact HTY.out a ha),rfl⟩
set_option maxHeartbeats 4000000 in
theorem targets3_any {w w0:World} (po:Option Addr) (no qo:Nat) (t:Int) (tt:Nat) (od:Option Addr) (n cd:Nat) (k:List (El w)) (hb0:Below w.heap.size w w0) (hd:DatsRd (.slice od n cd) k w0) (nk:k.length<=1000) :
  Calls Tryz.prog 81 #[.agg #[.slice po no qo,.int .i64 t,.int .u32 (tt:Int),.slice od n cd]] w0 fun e w'=>∃v us,e=.returned v/\Sl v us w'/\Ty v 38 w'/\us.length=(Rs.targets t (plE k)).length/\(∀i (h:i<us.length) (h':i<(Rs.targets t (plE k)).length),Rd us[i] (Rs.targets t (plE k))[i] w)/\us.length<=k.length/\Below w0.heap.size w0 w':=by
 have hnk:n=k.length:=by obtain⟨_,_,e,_⟩:=hd;cases e;rfl
 have HD:=Hd hd.el;have HB0:=Hd hb0;have HNK:=Hd hnk;have lo:(n:Int)<=1000:=by omega
 obtain⟨W1,hW1⟩:∃W1,w0.alloc (.cells #[.slice po no qo,.int .i64 t,.int .u32 (tt:Int),.slice od n cd] 89)=W1:=⟨_,rfl⟩;have HB1:Hid (Below w0.heap.size w0 W1):=by show Below _ _ _;rw[<-hW1];exact Zr
 have HW1:=Hd hW1;clear hd hb0 hnk nk hW1;rcases hl:Rs.leads t with _|_
 ·obtain⟨t1,t2,t3,t4,t5⟩:=Rs.leads_not hl
  have HL:=Hd hl;have HT:Hid (Rs.targets t (plE k)=[]):=by show _=_;unfold Rs.targets;rw[if_neg (by rw[HL.out];exact Bool.false_ne_true)]
  clear hl;refine (zF (n:=0)).1 ?_;refine callsIn_of_wp Tryz.func81 rfl trivial ?_ rfl;simp only[Tryz.ntmps81,Zo,Ze,Zg,Nat.reduceAdd,Nat.reduceSub,Zi,Zj,Zk,Zl,Zm,Zp];gi_wp2_with fail
  rw[HW1.out];refine (callsIn_wide.2 (clipNms3_any (.slice none 0 0) [] (fun _=>True) W1 (Row.nil _ _ _ _) (by simp))).mono ?_
  rintro e w1 ⟨v1,rfl,r1,r2,rfl⟩;have HR1:=Hd (And.intro r1 r2);clear r1 r2;gi_wp2_with fail
  go_ret
  exact⟨_,[],rfl,HR1.out.1,HR1.out.2,by rw[HT.out];rfl,fun i h=>by simp at h,by simp,HB1.out⟩
 ·have hq:Rs.targets t (plE k)=(plE k).filterMap fun r=>r.names.head?:=by unfold Rs.targets;rw[if_pos hl]
  rw[hq];have ht:=Rs.leads_cases hl;clear hl hq;rcases ht with rfl|rfl|rfl|rfl|rfl
  all_goals
   refine (zF (n:=0)).1 ?_;refine callsIn_of_wp Tryz.func81 rfl trivial ?_ rfl;simp only[Tryz.ntmps81,Zo,Ze,Zg,Nat.reduceAdd,Nat.reduceSub,Zi,Zj,Zk,Zl,Zm,Zp];gi_wp2_with fail
   rw[HW1.out];clear HW1
   gi_loopw [3,17] (fun v3 v17 W=>∃(i:Nat) (ys:List Value) (ns:List (List (List UInt8))),i<=n/\v17=.int .i64 i/\Hid (ns=(plE (k.take i)).filterMap (fun r=>r.names.head?)/\ys.length=ns.length/\ys.length<=i/\∀j (h:j<ys.length) (h':j<ns.length),Rd ys[j] ns[j] w)/\Below w0.heap.size w0 W/\Row (fun g=>w0.heap.size<=g) 38 1 v3 ys.length ys W) (fun _ v17 _=>n-(intOf v17).toNat)
   case atStart=>exact⟨0,[],[],Nat.zero_le _,rfl,⟨rfl,rfl,Zh _,fun j h=>by simp at h⟩,HB1.out,Row.nil _ _ _ _⟩
   case round =>
    obtain⟨i,ys,ns,hi,rfl,HI,hb,hrow⟩:=hrel;by_cases hlt:i<n
    ·have hlz:(i:Int)<(n:Int):=by omega
     have hik:i<k.length:=by rw[<-HNK.out];exact hlt
     obtain⟨x,hx⟩:=Zq (k[i]);obtain⟨us,p1,q1,p2,n2,q2,p3,n3,q3,p4,n4,q4,ex,hu,hul,hur,_⟩:=x.data;obtain⟨ga,rfl,e0,e1,e2,e3,e4⟩:=HD.out _ hb i hik _ _ _ _ _ (by rw[hx];exact ex)
     have htk:k.take (i+1)=k.take i++[x]:=by rw[Zx hik,hx]
     have HTK:=Hd htk;have HUR:=Hd hur;have HB:=Hd hb;have HU:=Hd hu;have HR:=Hd hrow;have HUL:=Hd hul;obtain⟨m,hm⟩:=Zq us.length;rw[hm] at e1;have HM:=Hd hm;clear hx ex htk hur hb hu hrow hul hm;rcases Nat.eq_zero_or_pos m with hm0|hm0
     ·subst hm0
      have hnil:x.1.2.names=[]:=List.length_eq_zero_iff.1 (by rw[<-HUL.out];exact HM.out)
      have HNIL:=Hd hnil;clear hnil;gi_wp2_with fail
      refine⟨⟨i+1,ys,ns,hlt,by go_num,?_,HB.out.alloc HB.out.size _,HR.out.alloc _⟩,by simp[intOf];omega⟩
      obtain⟨h1,h2,h3,h4⟩:=HI.out;refine⟨?_,h2,by omega,h4⟩
      rw[HTK.out,plE_snoc,List.filterMap_append,<-h1];simp[HNIL.out]
     ·have hmz:(0:Int)<(m:Int):=by omega
      have hp2:decide (0<m)=true:=zM hm0;have hu0:0<us.length:=by rw[HM.out];exact hm0
      have hn0:0<x.1.2.names.length:=by rw[<-HUL.out];exact hu0
      obtain⟨a1,rfl,c1⟩:=HU.out.cells wr (Z5 HB0.out HB.out) 0 hu0;rw[add_zero'] at c1;have hrd:=HUR.out 0 hu0 hn0;obtain⟨y,hy⟩:=Zq (us[0]);rw[hy] at c1 hrd;obtain⟨oy,cy,rfl,_,_⟩:=hrd.form;obtain⟨ly,hly⟩:=Zq (x.1.2.names[0].length);rw[hly] at c1 hrd;have hlt1:=zG c1;have c1':∀o,(wr.alloc o).cell? a1=some (.slice oy ly cy):=fun o=>(((Below.refl wr.heap.size wr).alloc (Zh _) o).cell hlt1).trans c1
      have HRD:=Hd hrd;clear hrd hy hly c1 hlt1 hu0;obtain⟨Wb,hWb⟩:=Zq ((wr.alloc (.cells #[.int .i64 x.1.2.type,.slice (some a1) m q1,.slice p2 n2 q2,.slice p3 n3 q3,.slice p4 n4 q4] 107)).alloc (.cells #[.slice oy ly cy] 38));have hbb:Below w0.heap.size w0 Wb:=by rw[<-hWb];exact (HB.out.alloc HB.out.size _).alloc (by have:=HB.out.size;simp;omega) _
      have hrb:Row (fun g=>w0.heap.size<=g) 38 1 u3 ys.length ys Wb:=by rw[<-hWb];exact (HR.out.alloc _).alloc _
      have hnb:GRd 1 (.slice (some ⟨wr.heap.size+1,0,none⟩) 1 1) [[.slice oy ly cy]] Wb:=by
       have:=GRd.new [.slice oy ly cy] rfl (by simp[Value.oneCell']) (wr.alloc (.cells #[.int .i64 x.1.2.type,.slice (some a1) m q1,.slice p2 n2 q2,.slice p3 n3 q3,.slice p4 n4 q4] 107)) 38
       rw[World.size_alloc] at this;rw[<-hWb];exact this
      have HBB:=Hd hbb;have HRB:=Hd hrb;have HNB:=Hd hnb;have HWB:=Hd hWb;have hyi:ys.length<=1000:=by have:=HI.out;omega
      clear hbb hrb hnb hWb;gi_wp2_with (gi_at_builtin;rw[HWB.out];refine Z7 (fun g=>w0.heap.size<=g) 38 _ 1 24 info_name rfl (by decide) rfl _ _ _ Tryz.underlying50 rfl _ ys.length (ys.map fun y=>[y]) (by rfl) (by rw[flatten_one];exact HRB.out) _ [[.slice oy ly cy]] (by rfl) HNB.out (by simp;omega) (by omega) (by have:=HBB.out.size;exact this) ?_;intro v10 w10 hrow10 hgr10)
      have hb10:=HBB.out.grown hgr10 HBB.out.size (fun g hg=>HRB.out.2 g hg)
      rw[List.flatten_append,flatten_one] at hrow10;gi_wp2_with fail
      refine⟨⟨i+1,ys++[.slice oy ly cy],ns++[x.1.2.names[0]],hlt,by go_num,?_,hb10,by rw[Zb];exact hrow10⟩,by simp[intOf];omega⟩
      obtain⟨h1,h2,h3,h4⟩:=HI.out;refine⟨?_,by simp[h2],by simp;omega,fun j hj hj'=>?_⟩
      ·rw[HTK.out,plE_snoc,List.filterMap_append,<-h1]
       rw[List.filterMap_cons_some (b:=x.1.2.names[0]) (by rw[List.head?_eq_getElem?,zN hn0])];rfl
      ·by_cases hjl:j<ys.length
       ·rw[Zt hjl,Zt (by omega)];exact h4 j hjl (by omega)
       ·have:j=ys.length:=by simp at hj;omega
        subst this;rw[Zs (Zh _),Zs (by omega)]
        simpa using HRD.out
    ·have hlz:¬((i:Int)<(n:Int)):=by omega
     obtain rfl:i=n:=by omega
     obtain⟨h1,h2,h3,h4⟩:=HI.out;rw[List.take_of_length_le (by rw[<-HNK.out];exact Zh _)] at h1
     have HCL:=Hd (clipNms3_any u3 ys _ wr hrow (by omega))
     have H1:=Hd h1;have H24:=Hd (And.intro h2 (And.intro h3 h4));have HB:=Hd hb;clear h1 h2 h3 h4 hrow hb;gi_wp2_with fail
     refine (callsIn_wide.2 HCL.out).mono ?_;rintro e w1 ⟨v1,rfl,r1,r2,rfl⟩;have HR1:=Hd (And.intro r1 r2);clear r1 r2;gi_wp2_with fail
     go_ret
     rw[<-H1.out];exact⟨_,ys,rfl,HR1.out.1,HR1.out.2,H24.out.1,H24.out.2.2,by rw[<-HNK.out];exact H24.out.2.1,HB.out⟩
end
section
open Go.RowKit
def Iter2 {σ:Type} (P:Program) (gf:Nat) (lb:Array Value) (Pre:World->Prop) (St Kp:World->World->Prop) (Y:σ->World->Array Value->σ->Prop) (k0:σ) (E:σ->Prop):Prop :=
 ∀(l:Nat) (J:σ->World->Prop) (W:World),Pre W ->
  (∀k A B,J k A->St A B->J k B) ->
  (∀k k' v A,J k A->Y k A v k'->YieldAt Fence.wide 0 P l v A fun e B=>e=.returned (.bool true)/\J k' B/\Kp A B) ->
  J k0 W ->
  CallsIn Fence.wide 0 P gf (#[.func (.yield l) #[] #[]]++lb) W fun e B=>(∃v,e=.returned v)/\∃k,E k/\J k B
def rfPost2 {σ:Type} (Kp:World->World->Prop) (I:σ->World->Prop) (k':σ) (W:World):Exit->Act->World->Prop
 | .normal,_,W'=>KeepsOthers W W'/\Kp W W'/\I k' W'
 | _,_,_=>False
def rfNext2 {σ:Type} (P:Program) (l L:Nat) (Kp:World->World->Prop) (I:σ->World->Prop) (body:Code) (k':σ) (W:World) (a₁:Act) (W₁:World):Prop :=
 KeepsOthers W W₁/\Kp W W₁/\∀r o,l=L->W₁.heap[L]? = some (.loop r)->body.wpIn (Fence.wide.inRound l) 0 P (rfPost2 Kp I k' (W₁.putObj L (.loop o))) a₁ (W₁.putObj L (.loop o))
variable {P:Program}
end
section
open Go.RowKit
variable {P:Program}
end
section
open Go.RowKit Go.Shelf Go.Sort
attribute [local go_sem] Oper.semAt_some
structure ZE (w:World) where
 vo:Value
 vr:Value
 origin:List (List UInt8)
 recs:List (El w)
 ho:Rd vo origin w
 hr:RecsRd vr (recs.map (·.1)) w
 nb:NB origin
 len:recs.length<=60
def encZ {w:World} (z:ZE w):List Value:=[z.vo,z.vr]
structure HE (w:World) where
 vn:Value
 a0:Int
 a1:Int
 a2:Int
 a3:Int
 vz:Value
 name:List (List UInt8)
 zones:List (ZE w)
 hn:Rd vn name w
 hz:GRd 2 vz (zones.map encZ) w
 len:zones.length<=4
def encHo {w:World} (h:HE w):List Value:=[h.vn,.int .u8 h.a0,.int .u8 h.a1,.int .u8 h.a2,.int .u8 h.a3,h.vz]
namespace Eg
variable {w:World}
def zsF:List (HE w)->Nat->List (Nat × ZE w)
 | [],_=>[]
 | h::l,i=>h.zones.map (fun z=>(i,z))++zsF l (i+1)
def zs (hs:List (HE w)):List (Nat × ZE w):=zsF hs 0
def off (hs:List (HE w)) (i:Nat):Nat:=(zs (hs.take i)).length
theorem zsF_app:∀(a b:List (HE w)) (i:Nat),zsF (a++b) i=zsF a i++zsF b (i+a.length)
 | [],b,i=>by simp[zsF]
 | h::a,b,i=>by
  show _++zsF (a++b) (i+1)=(_++zsF a (i+1))++_;rw[zsF_app a b (i+1),List.append_assoc,Ze,show i+1+a.length=i+(a.length+1) by omega]
theorem off_all (hs:List (HE w)):off hs hs.length=(zs hs).length:=by unfold off;rw[List.take_length]
theorem off_succ (hs:List (HE w)) (i:Nat) (hi:i<hs.length):off hs (i+1)=off hs i+hs[i].zones.length:=by
 unfold off zs;rw[Zx hi,zsF_app];simp[zsF]
theorem zs_at (hs:List (HE w)) (i j:Nat) (hi:i<hs.length) (hj:j<hs[i].zones.length):∃h:off hs i+j<(zs hs).length,(zs hs)[off hs i+j]=(i,hs[i].zones[j]):=by
 have e:zs hs=zs (hs.take i)++(hs[i].zones.map (fun z=>(i,z))++zsF (hs.drop (i+1)) (i+1)):=by
  conv=>lhs;rw[<-List.take_append_drop i hs,Zy hi]
  unfold zs;rw[zsF_app];show _++(_++_)=_;have hl:(hs.take i).length=i:=by rw[List.length_take];omega
  rw[hl,Nat.zero_add]
 have hlt:off hs i+j<(zs hs).length:=by
  rw[e,Zb,Zb,Zf];show (zs (hs.take i)).length+j<_;omega
 refine⟨hlt,?_⟩;have h2:(zs hs)[off hs i+j]? = some (i,hs[i].zones[j]):=by
  rw[e];show (zs (hs.take i)++_)[(zs (hs.take i)).length+j]? = _;rw[List.getElem?_append_right (Nat.le_add_right _ _),Nat.add_sub_cancel_left,List.getElem?_append_left (by rw[Zf];exact hj),List.getElem?_map,zN hj];rfl
 rw[zN hlt] at h2;exact Option.some.inj h2
end Eg
def egKp (T:TypeId->Prop) (w:World) (A B:World):Prop:=keepT T A B/\(Below w.heap.size w A->Below w.heap.size w B)
theorem egKp.refl (T:TypeId->Prop) (w A:World):egKp T w A A:=⟨keepT.refl _ _,id⟩
theorem egKp.trans {T:TypeId->Prop} {w A B C:World} (h:egKp T w A B) (k:egKp T w B C):egKp T w A C:=⟨h.1.trans k.1,fun x=>k.2 (h.2 x)⟩
theorem egKp.below {T:TypeId->Prop} {w A B:World} (h:Below A.heap.size A B):egKp T w A B:=⟨.below h,fun x=>Z5 x h⟩
theorem egKp.put {T:TypeId->Prop} {w A:World} {L:Nat} (hL:w.heap.size<=L) (hr:∀c t f,A.heap[L]?≠some (Obj.cells c t f)) (o:Obj):egKp T w A (A.putObj L o) :=
 ⟨fun k c t f hk _=>(World.putObj_heap_other (fun e=>by rw[e] at hk;exact hr _ _ _ hk)).trans hk,fun h=>h.grown (grownBy_putObj' A L o) h.size (fun k e=>by cases e;exact hL)⟩
def egSt (A B:World):Prop:=Below A.heap.size A B
theorem egSt.others {A B:World} (h:egSt A B):KeepsOthers A B:=Z6 h
section
variable {w:World}
def zoneY (hs:List (HE w)) (k:Nat) (_:World) (v:Array Value) (k':Nat):Prop :=
 ∃h:k<(Eg.zs hs).length,k'=k+1/\v=#[.int .i64 (((Eg.zs hs)[k].1:Nat):Int),.agg (encZ (Eg.zs hs)[k].2).toArray]
set_option maxHeartbeats 4000000 in
theorem zones1_iter (T:TypeId->Prop) (bn:Nat) (vh v1 v2 v3:Value) (hs:List (HE w)) (hv:GRd 6 vh (hs.map encHo) w) (hn:hs.length<=6) :
  Iter2 Tryz.prog 49 #[.pointer (some ⟨bn,0,none⟩)] (fun A=>Blk bn #[vh,v1,v2,v3] 25 A/\Below w.heap.size w A) egSt (egKp T w) (zoneY hs) 0 (fun k=>k=(Eg.zs hs).length):=by
 intro l J W hpre hJs hY h0;obtain⟨hbk,hbw⟩:=hpre;refine callsIn_of_wp Tryz.func49 rfl trivial ?_ rfl;simp only[Tryz.ntmps49,Zo,Ze,Zg,Nat.reduceAdd,Nat.reduceSub,Zi,Zj,Zk,Zl,Zm,Zp];obtain⟨o,cap,rfl,_,_⟩:=hv.form;rw[Zf] at hbk;have hvl:(hs.map encHo).length=hs.length:=Zf ..;rw[hvl] at hv;have c0:W.cell? ⟨bn,0,none⟩=some (.slice o hs.length cap):=hbk.cell 0;have HV:=Hd hv;have HJS:=Hd hJs;have HY:=Hd hY;have HJ0:=Hd h0;have HBW:=Hd hbw;have hnz:(hs.length:Int)<=6:=by omega
 clear hv hJs hY h0 hbk hvl;gi_wp2_with fail
 clear c0
 gi_loopw [10] (fun vi A=>∃i:Nat,i<=hs.length/\vi=.int .i64 i/\Below w.heap.size w A/\J (Eg.off hs i) A) (fun vi _=>hs.length-(intOf vi).toNat)
 case atStart=>exact⟨0,Nat.zero_le _,rfl,HBW.out,HJ0.out⟩
 case round =>
  clear HBW HJ0;obtain⟨i,hi,rfl,hb,hj⟩:=hrel;by_cases hlt:i<hs.length
  case neg =>
   obtain rfl:hs.length=i:=by omega
   have hlz:¬((hs.length:Int)<(hs.length:Int)):=by omega
   rw[Eg.off_all] at hj;have HJ:=Hd hj;clear hj;gi_wp2_with fail
   go_end0
   exact⟨⟨_,rfl⟩,HJ.out⟩
  case pos =>
  have hlz:(i:Int)<(hs.length:Int):=by omega
  obtain⟨a,rfl,q0,q1⟩:=(HV.out.below hb).at (by decide) i (by rw[Zf];exact hlt)
  obtain⟨x,hx⟩:=Zq (hs[i]);have HX:=Hd hx;have HZ:=Hd x.hz;rw[List.getElem_map,hx] at q0 q1;obtain⟨ea,hea⟩:=Zq (a.add (i*6));rw[hea] at q0 q1;have e0:wr.cell? ea=some x.vn:=q0;have e1:wr.cell? ⟨ea.block,ea.off+1,none⟩=some (.int .u8 x.a0):=q1 1 (by decide) (by decide)
  have e2:wr.cell? ⟨ea.block,ea.off+2,none⟩=some (.int .u8 x.a1):=q1 2 (by decide) (by decide)
  have e3:wr.cell? ⟨ea.block,ea.off+3,none⟩=some (.int .u8 x.a2):=q1 3 (by decide) (by decide)
  have e4:wr.cell? ⟨ea.block,ea.off+4,none⟩=some (.int .u8 x.a3):=q1 4 (by decide) (by decide)
  have e5:wr.cell? ⟨ea.block,ea.off+5,none⟩=some x.vz:=q1 5 (by decide) (by decide)
  obtain⟨on,cn,hvn,_,_⟩:=x.hn.form;obtain⟨oz,cz,hvz,_,_⟩:=x.hz.form;rw[hvn] at e0;rw[hvz,Zf] at e5;have hvz':=hvz;rw[Zf] at hvz';rw[hvz'] at HZ;obtain⟨m,hm⟩:=Zq x.zones.length;have hml:m<=4:=by rw[<-hm];exact x.len
  have hmz:(m:Int)<=4:=by omega
  rw[hm] at e5 HZ;have HM:=Hd hm;have HB:=Hd hb;have HJ:=Hd hj;clear q0 q1 hb hj hx hvn hvz hvz' hm;gi_wp2_with fail
  obtain⟨W0,hW0⟩:=Zq (wr.alloc (.cells #[.slice on x.name.length cn,.int .u8 x.a0,.int .u8 x.a1,.int .u8 x.a2,.int .u8 x.a3,.slice oz m cz] 42));have hb0:Below wr.heap.size wr W0:=by rw[<-hW0];exact Zr
  rw[hW0];have HB0:=Hd (Z5 HB.out hb0);have HJ1:=Hd (HJS.out _ _ _ HJ.out hb0);clear hb0 hW0 e0 e1 e2 e3 e4 e5 HB HJ hea
  gi_loopw [18] (fun vj A=>∃j:Nat,j<=m/\vj=.int .i64 j/\Below w.heap.size w A/\J (Eg.off hs i+j) A) (fun vj _=>m-(intOf vj).toNat)
  case atStart=>exact⟨0,Nat.zero_le _,rfl,HB0.out,HJ1.out⟩
  case round =>
   clear HB0 HJ1;obtain⟨j,hjm,rfl,hb,hj⟩:=hrel;by_cases hlj:j<m
   case neg =>
    obtain rfl:m=j:=by omega
    have hmm:¬((m:Int)<(m:Int)):=by omega
    have hn2:Eg.off hs i+m=Eg.off hs (i+1):=by rw[Eg.off_succ hs i hlt,HX.out,HM.out]
    rw[hn2] at hj;have HJ:=Hd hj;have HB:=Hd hb;clear hj hb hn2;gi_wp2_with fail
    exact⟨⟨i+1,hlt,by go_num,HB.out,HJ.out⟩,by simp[intOf];omega⟩
   case pos =>
   have hjz:(j:Int)<(m:Int):=by omega
   obtain⟨b,rfl,r0,r1⟩:=(HZ.out.below hb).at (by decide) j (by rw[Zf,HM.out];exact hlj)
   have hjx:j<x.zones.length:=by rw[HM.out];exact hlj
   have hji:j<hs[i].zones.length:=by rw[HX.out];exact hjx
   obtain⟨hk,hzat⟩:=Eg.zs_at hs i j hlt hji;obtain⟨z,hz⟩:=Zq (x.zones[j]);have hzz:(Eg.zs hs)[Eg.off hs i+j]=(i,z):=by
    rw[hzat,<-hz];have:=HX.out
    subst this;rfl
   rw[List.getElem_map,hz] at r0 r1;obtain⟨eb,heb⟩:=Zq (b.add (j*2));rw[heb] at r0 r1;have f0:wr.cell? eb=some z.vo:=r0;have f1:wr.cell? ⟨eb.block,eb.off+1,none⟩=some z.vr:=r1 1 (by decide) (by decide)
   obtain⟨oo,co,hvo,_,_⟩:=z.ho.form;obtain⟨or,cr,hvr⟩:∃o cap,z.vr=.slice o z.recs.length cap:=by obtain⟨_,o,cap,h,_⟩:=z.hr;exact⟨o,cap,by rw[h,Zf]⟩
   have henc:encZ z=[.slice oo z.origin.length co,.slice or z.recs.length cr]:=by unfold encZ;rw[hvo,hvr]
   rw[hvo] at f0;rw[hvr] at f1;have HENC:=Hd henc;have HZZ:=Hd hzz;have HB:=Hd hb;have HJ:=Hd hj;obtain⟨W2,hW2⟩:=Zq (wr.alloc (.cells #[.slice oo z.origin.length co,.slice or z.recs.length cr] 54));have hb2:Below wr.heap.size wr W2:=by rw[<-hW2];exact Zr
   have HB2:=Hd (Z5 HB.out hb2);have HJ2:=Hd (HJS.out _ _ _ HJ.out hb2);have HW2:=Hd hW2;have HYY:Hid (YieldAt Fence.wide 0 Tryz.prog l #[.int .i64 (i:Int),.agg #[.slice oo z.origin.length co,.slice or z.recs.length cr]] W2 fun e B=>e=.returned (.bool true)/\J (Eg.off hs i+j+1) B/\egKp T w W2 B) :=
    HY.out (Eg.off hs i+j) _ _ W2 HJ2.out ⟨hk,rfl,by rw[HZZ.out,HENC.out]⟩
   obtain⟨fn,tmps,assign,body,hy,hR⟩:=HYY.out;clear r0 r1 hb hj hz hzat hzz hvo hvr henc hb2 HJ HYY;subst hW2;clear HW2;gi_wp2_with fail
   refine hR.mono ?_;rintro e W3 ⟨rfl,hJ3,hk3⟩;have HJ3:=Hd hJ3;have HB3:=Hd (hk3.2 HB2.out);clear hJ3 hk3 hR hy;gi_wp2_with fail
   exact⟨⟨j+1,hlj,by go_num,HB3.out,HJ3.out⟩,by simp[intOf];omega⟩
end
end
end Go.Proofs.YtgmbefolgppmdaaGreat
