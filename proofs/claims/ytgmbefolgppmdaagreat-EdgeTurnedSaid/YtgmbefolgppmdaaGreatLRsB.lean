/- Sets of records: going over them. -/
import Derived.Test.YtgmbefolgppmdaaGreatLZnF
import Derived.Test.YtgmbefolgppmdaaGreatLReg
import Derived.Test.YtgmbefolgppmdaaGreatLAli
namespace Go.Proofs.YtgmbefolgppmdaaGreat
open Go.RowKit Go.Shelf Go.Sort
set_option maxRecDepth 100000
def keepH (S:Nat->Prop) (A B:World):Prop:=∀b,S b->B.heap[b]? = A.heap[b]?
theorem keepH.refl (S:Nat->Prop) (A:World):keepH S A A:=fun _ _=>rfl
theorem keepH.trans {S:Nat->Prop} {A B C:World} (h:keepH S A B) (k:keepH S B C):keepH S A C:=fun p hp=>(k p hp).trans (h p hp)
theorem keepH.put {S:Nat->Prop} {L:Nat} (hL:¬S L) (A:World) (o:Obj):keepH S A (A.putObj L o):=fun b hb=>World.putObj_heap_other (fun e=>hL (by rw[<-e];exact hb))
theorem keepH.of_below {S:Nat->Prop} {K0:Nat} {A B:World} (h:Below K0 A B) (hS:∀b,S b->b<K0):keepH S A B:=fun b hb=>h.block b (hS _ hb)
theorem keepH.set {S:Nat->Prop} {b o:Nat} (hb:¬S b) (A:World) (u:Value):keepH S A (A.setCell ⟨b,o,none⟩ u):=fun c hc=>Below.heap_setCell _ _ _ _ (fun e=>hb (by have e:c=b:=e;rw[<-e];exact hc))
theorem keepH.cell {S:Nat->Prop} {A B:World} (h:keepH S A B) {p:Addr} (hp:S p.block):B.cell? p=A.cell? p:=World.cell?_of_block (h _ hp)
section
variable {w:World}
structure SetsAt (Sk:Nat->Prop) (bl:Nat) (l:List (El w)) (W:World):Prop where
 bx:∃o c,Box bl 52 (.slice o l.length c) W/\RecsRd (.slice o l.length c) (l.map (·.1)) W/\∀a,o=some a->0<l.length->Sk a.block/\a.block≠bl
 below:Below w.heap.size w W
def setKp (w:World) (Sk:Nat->Prop) (A B:World):Prop:=keepH Sk A B/\(Below w.heap.size w A->Below w.heap.size w B)
theorem setKp.trans {Sk:Nat->Prop} {A B C:World} (h:setKp w Sk A B) (k:setKp w Sk B C):setKp w Sk A C:=⟨h.1.trans k.1,fun x=>k.2 (h.2 x)⟩
theorem setKp.refl (Sk:Nat->Prop) (A:World):setKp w Sk A A:=⟨keepH.refl _ _,id⟩
theorem setKp.put {Sk:Nat->Prop} {L:Nat} (hL:¬Sk L) (hw:w.heap.size<=L) (A:World) (o:Obj):setKp w Sk A (A.putObj L o) :=
 ⟨keepH.put hL A o,fun h=>h.grown (grownBy_putObj' A L o) h.size (fun k e=>by cases e;exact hw)⟩
theorem SetsAt.kp {Sk:Nat->Prop} {bl:Nat} {l:List (El w)} {A B:World} (h:SetsAt Sk bl l A) (hk:setKp w Sk A B) (hbl:Sk bl):SetsAt Sk bl l B:=by
 obtain⟨⟨o,c,h1,h2,h3⟩,h4⟩:=h;have hb:=hk.2 h4;refine⟨⟨o,c,(hk.1 bl hbl).trans h1,⟨fun x hx=>?_,?_⟩,h3⟩,hb⟩
 ·obtain⟨y,_,rfl⟩:=List.mem_map.1 hx
  exact y.2.1.below hb
 ·obtain⟨_,o',c',e1,e2,e3,e4,e5⟩:=h2
  refine⟨o',c',e1,e2,e3,e4,fun j hj=>?_⟩
  obtain⟨a,ha,hc⟩:=e5 j hj;have:o=some a:=by rw[Zf] at e1;cases e1;exact ha
  exact⟨a,ha,(hk.1.cell (by rw[add_block];exact (h3 a this (by have:=hj;rw[encP_map,flat_len encE 7 encE_len] at this;omega)).1)).trans hc⟩
theorem SetsAt.on {Sk:Nat->Prop} {bl:Nat} {l:List (El w)} {A B:World} (h:SetsAt Sk bl l A) (hb:Below A.heap.size A B):SetsAt Sk bl l B:=by
 obtain⟨⟨o,c,h1,h2,h3⟩,h4⟩:=h;exact⟨⟨o,c,h1.below hb,h2.kept hb,h3⟩,Z5 h4 hb⟩
def setSt (bl:Nat) (A B:World):Prop:=A.grownBy B (some bl)/\∃c t f,A.heap[bl]? = some (.cells c t f)
theorem setSt.others {bl:Nat} {A B:World} (h:setSt bl A B):KeepsOthers A B:=KeepsOthers.of_grownBy h.1 fun j o hj ho=>by
 cases hj;obtain⟨c,t,f,hc⟩:=h.2;rw[hc] at ho;cases ho;rfl
def setY (bl:Nat) (k:List (El w)) (A:World) (v:Array Value) (k':List (El w)):Prop :=
 ∃x xs n,k=x::xs/\n=Rs.run x.1.2 (plE k)/\n<=k.length/\k'=k.drop n/\∃vo od cd,v=#[.agg #[vo,.int .i64 x.1.2.type,.int .u32 ((Rs.ttl x.1.2 (plE (k.take n)):Nat):Int),.slice od n cd]]/\Rd vo x.1.2.owner w/\DatsRd (.slice od n cd) (k.take n) A/\∀a,od=some a->bl<a.block/\∃cur f,A.heap[a.block]? = some (.cells cur 107 f)
def lenAt (bl:Nat) (W:World):Nat:=match W.cell? ⟨bl,0,none⟩ with
 | some (.slice _ n _)=>n
 | _=>0
theorem Blk.setAt {b cs t W} (h:Blk b cs t W) (i:Nat) (u:Value):Blk b (cs.setIfInBounds i u) t (W.setCell ⟨b,i,none⟩ u):=by
 unfold Blk at *;simp[World.setCell,Array.getElem?_modify,h]
def Bx4 (b:Nat) (s0 s1 s2 s3:Value) (W:World):Prop:=W.cell? ⟨b,0,none⟩=some s0/\W.cell? ⟨b,1,none⟩=some s1/\W.cell? ⟨b,2,none⟩=some s2/\W.cell? ⟨b,3,none⟩=some s3
def Bxa7 (e:Addr) (c0 c1 c2 c3 c4 c5 c6:Value) (W:World):Prop :=
 W.cell? e=some c0/\W.cell? ⟨e.block,e.off+1,none⟩=some c1/\W.cell? ⟨e.block,e.off+2,none⟩=some c2/\W.cell? ⟨e.block,e.off+3,none⟩=some c3/\W.cell? ⟨e.block,e.off+4,none⟩=some c4/\W.cell? ⟨e.block,e.off+5,none⟩=some c5/\W.cell? ⟨e.block,e.off+6,none⟩=some c6
theorem Bx4.of {b s0 s1 s2 s3 t W} (h:Blk b #[s0,s1,s2,s3] t W):Bx4 b s0 s1 s2 s3 W:=⟨h.cell 0,h.cell 1,h.cell 2,h.cell 3⟩
def Rg (bl:Nat) (vl:Value) (b:Nat) (s0 s1 s2 s3:Value) (e:Addr) (c0 c1 c2 c3 c4 c5 c6:Value) (W:World):Prop:=W.cell? ⟨bl,0,none⟩=some vl/\Bx4 b s0 s1 s2 s3 W/\Bxa7 e c0 c1 c2 c3 c4 c5 c6 W
theorem Rg.kept {bl vl b s0 s1 s2 s3 e c0 c1 c2 c3 c4 c5 c6} {W W':World} (h:Rg bl vl b s0 s1 s2 s3 e c0 c1 c2 c3 c4 c5 c6 W) (k:CellsKept W W'):Rg bl vl b s0 s1 s2 s3 e c0 c1 c2 c3 c4 c5 c6 W':=by
 obtain⟨h0,⟨a0,a1,a2,a3⟩,b0,b1,b2,b3,b4,b5,b6⟩:=h;exact⟨k.cell h0,⟨k.cell a0,k.cell a1,k.cell a2,k.cell a3⟩,k.cell b0,k.cell b1,k.cell b2,k.cell b3,k.cell b4,k.cell b5,k.cell b6⟩
structure SgI (wr:World) (b:Nat) (x:El w) (vo:Value) (k:List (El w)) (n:Nat) (W:World):Prop where
 bs:∃od cd,Blk b #[vo,.int .i64 x.1.2.type,.int .u32 ((Rs.ttl x.1.2 (plE (k.take n)):Nat):Int),.slice od n cd] 89 W/\Row (fun g=>wr.heap.size<=g/\g≠b) 107 5 (.slice od n cd) n ((k.take n).flatMap encD) W
 below:Below wr.heap.size wr W
 all:∀j (h:j<k.length),j<n->Rs.P x.1.2 k[j].1.2=true
 le:n<=k.length
 lb:wr.heap.size<=b
theorem SgI.on {wo:World} {b:Nat} {x:El w} {vo:Value} {k:List (El w)} {n:Nat} {A W:World} (h:SgI wo b x vo k n A) (hb:Below A.heap.size A W):SgI wo b x vo k n W:=by
 obtain⟨od,cd,h1,h2⟩:=h.bs;exact⟨⟨od,cd,h1.below hb,h2.below hb⟩,Z5 h.below hb,h.all,h.le,h.lb⟩
theorem SetsAt.next {Sk:Nat->Prop} {bl:Nat} {k:List (El w)} {W:World} (h:SetsAt Sk bl k W) (hbl:w.heap.size<=bl) {o:Option Addr} {c:Nat} (hb:Box bl 52 (.slice o k.length c) W) (n:Nat) (hn:n<=k.length) (o':Option Addr) (c':Nat)
  (h':RecsRd (.slice o' (k.length-n) c') ((k.drop n).map (·.1)) W) (ho:∀a',o'=some a'->∃a,o=some a/\a'.block=a.block):SetsAt Sk bl (k.drop n) (W.setCell ⟨bl,0,none⟩ (.slice o' (k.length-n) c')):=by
 obtain⟨⟨o1,c1,h1,_,h3⟩,h4⟩:=h;have e:(Value.slice o1 k.length c1)=.slice o k.length c:=by
  have:=h1.cell;rw[hb.cell] at this;exact (Option.some.inj this).symm
 cases e;have hbW:Below w.heap.size w (W.setCell ⟨bl,0,none⟩ (.slice o' (k.length-n) c')):=h4.setCell (p:=⟨bl,0,none⟩) hbl _;have hoo:∀a',o'=some a'->0<(k.drop n).length->Sk a'.block/\a'.block≠bl:=fun a' ha hp=>by
  obtain⟨a,ha1,ha2⟩:=ho a' ha;rw[List.length_drop] at hp;rw[ha2];exact h3 a ha1 (by omega)
 refine⟨⟨o',c',by rw[List.length_drop];exact h1.set _,⟨fun x hx=>?_,?_⟩,hoo⟩,hbW⟩
 ·obtain⟨y,_,rfl⟩:=List.mem_map.1 hx
  exact y.2.1.below hbW
 ·obtain⟨_,o2,c2,e1,e2,e3,e4,e5⟩:=h'
  rw[Zf,List.length_drop] at e1;refine⟨o2,c2,by rw[Zf,List.length_drop];exact e1,e2,e3,e4,fun j hj=>?_⟩
  obtain⟨a2,ha,hc⟩:=e5 j hj;have:o'=some a2:=by cases e1;exact ha
  exact⟨a2,ha,(World.cell?_of_block (Below.heap_setCell _ _ _ _ (by rw[add_block];exact (hoo a2 this (by have:=hj;rw[encP_map,flat_len encE 7 encE_len] at this;omega)).2))).trans hc⟩
theorem plE_get (l:List (El w)) (j:Nat) (hj:j<(plE l).length):(plE l)[j]=(l[j]'(by simpa[plE] using hj)).1.2:=by simp[plE]
theorem El.ownerRd (x:El w) {c0:Value} {cs:List Value} (h:encE x=c0::cs):Rd c0 x.1.2.owner w:=by
 obtain⟨vo,ds,h0,ho,_⟩:=x.2.1;have:encE x=vo::.int .u32 (x.1.2.ttl:Int)::ds:=h0
 rw[this] at h;cases h;exact ho
set_option maxHeartbeats 4000000 in
theorem sets1_iter (Sk:Nat->Prop) (bl:Nat) (hbl:w.heap.size<=bl) (hsk:Sk bl) (l:List (El w)) (hn:l.length<=1000) :
  Iter Tryz.prog 103 #[.pointer (some ⟨bl,0,none⟩)] (SetsAt Sk bl l) (setSt bl) (setKp w Sk) (setY (w:=w) bl) l (fun k=>k=[]):=by
 intro lp J Jx W hpre hJs hJxs hY h0;refine callsIn_of_wp Tryz.func103 rfl trivial ?_ rfl;simp only[Tryz.ntmps103,Zo,Ze,Zg,Nat.reduceAdd,Nat.reduceSub,Zi,Zj,Zk,Zl,Zm,Zp];gi_wp2
 gi_loopw [4] (fun _ wr=>∃k:List (El w),k.length<=1000/\J k wr/\SetsAt Sk bl k wr) (fun _ wr=>lenAt bl wr)
 case atStart=>exact⟨l,hn,h0,hpre⟩
 case round =>
  obtain⟨k,hk,hJ,hA⟩:=hrel;obtain⟨o,c,hbx,hrd,hoo⟩:=hA.bx;have hc0:=hbx.cell;have hk':(k.length:Int)<=1000:=by omega
  rcases k with _|⟨x,xs⟩
  ·gi_wp2
   go_end0
   exact⟨⟨_,rfl⟩,.inl ⟨_,rfl,hJ⟩⟩
  ·obtain⟨p0,n0,q0,p1,n1,q1,p2,n2,q2,p3,n3,q3,p4,n4,q4,ex⟩:=x.cells
   obtain⟨m,hm⟩:∃m,(x::xs).length=m:=⟨_,rfl⟩;have hm0:0<m:=by rw[<-hm];simp
   have hmz:(0:Int)<(m:Int):=by omega
   have HEL:=Hd hrd.el;obtain⟨a,rfl,e0,e1,e2,_⟩:=HEL.out _ (Below.refl _ _) 0 (by simp) _ _ _ _ _ _ _ ex
   rw[hm] at hc0 hk hk' hbx hrd;have hoa:=hoo a rfl (by simp)
   have e0':wr.cell? a=some (.slice p0 n0 q0):=e0;have e1':wr.cell? ⟨a.block,a.off+1,none⟩=some (.int .u32 (x.1.2.ttl:Int)):=e1;have e2':wr.cell? ⟨a.block,a.off+2,none⟩=some (.int .i64 x.1.2.type):=e2;have HX:=Hd ex;have HA:=Hd hA;have HM:=Hd hm;clear e0 e1 e2 hoo hbx hrd ex hA hm;gi_wp2_with fail
   refine Z8 [0,1,2,3,4,5,6,7,8,9,10,11,12,13,14] (fun w'=>w'.cell? ⟨bl,0,none⟩=some (.slice (some a) m c)/\w'.cell? a=some (.slice p0 n0 q0)/\w'.cell? ⟨a.block,a.off+1,none⟩=some (.int .u32 (x.1.2.ttl:Int))/\w'.cell? ⟨a.block,a.off+2,none⟩=some (.int .i64 x.1.2.type)) 16 rfl (by kernel_rfl) ?_
   intro w' hw';have hS:w'.cell? ⟨bl,0,none⟩=some (.slice (some a) m c)/\w'.cell? a=some (.slice p0 n0 q0)/\w'.cell? ⟨a.block,a.off+1,none⟩=some (.int .u32 (x.1.2.ttl:Int))/\w'.cell? ⟨a.block,a.off+2,none⟩=some (.int .i64 x.1.2.type):=by subst hw';exact⟨hc0,e0',e1',e2'⟩
   have hb:Below wr.heap.size wr w':=by subst hw';exact (Below.refl _ _).drew
   have HC0:=Hd hc0;clear hw' hc0 e0' e1' e2';refine tA 0 hS ?_;refine tA 1 hS ?_;refine tA 2 hS ?_;refine tA 4 hS ?_;refine tA 5 hS ?_;refine tA 6 hS ?_;refine tA 7 hS ?_;refine tA 9 hS ?_;refine tA 10 hS ?_;refine tA 11 hS ?_;refine tA 3 hS ?_;refine tA 8 hS ?_;refine tA 12 hS ?_;refine tA 13 hS ?_;simp only[Act.put,Za,Zd,Zc];refine oneH 14 (by rfl) (by kernel_rfl) (fun K hK=>?_)
   gi_wp2_with fail
   obtain⟨W1,hW1⟩:=Zq (w'.alloc (.cells #[.slice none 0 0,.int .i64 0,.int .u32 0,.slice none 0 0] 89));have hb1:Below wr.heap.size wr W1:=by subst hW1;exact hb.alloc hb.size _
   have hblk:Blk w'.heap.size #[.slice none 0 0,.int .i64 0,.int .u32 0,.slice none 0 0] 89 W1:=by subst hW1;exact Blk.new w' _ _
   have hS1:W1.cell? ⟨bl,0,none⟩=some (.slice (some a) m c)/\W1.cell? a=some (.slice p0 n0 q0)/\W1.cell? ⟨a.block,a.off+1,none⟩=some (.int .u32 (x.1.2.ttl:Int))/\W1.cell? ⟨a.block,a.off+2,none⟩=some (.int .i64 x.1.2.type):=by
    have k:=CellsKept.alloc w' (.cells #[.slice none 0 0,.int .i64 0,.int .u32 0,.slice none 0 0] 89);rw[hW1] at k;exact⟨k.cell hS.1,k.cell hS.2.1,k.cell hS.2.2.1,k.cell hS.2.2.2⟩
   rw[hW1];refine hK _ _ (fun _=>hS1) ?_
   clear hK K;have hc0:=hblk.cell 0;have hc1:=hblk.cell 1;have hc2:=hblk.cell 2;have hc3:=hblk.cell 3;have hz0:=hblk.frozen 0;have hz1:=hblk.frozen 1;have hz2:=hblk.frozen 2;have hz3:=hblk.frozen 3;simp at hc0 hc1 hc2 hc3;have hbb:wr.heap.size<=w'.heap.size:=hb.size;obtain⟨b,hbe⟩:=Zq w'.heap.size;rw[hbe] at hblk hc0 hc1 hc2 hc3 hz0 hz1 hz2 hz3 hbb ⊢;clear hS hS1 hW1 hb hbe;refine oneH 15 (by rfl) (by kernel_rfl) (fun K hK=>?_)
   gi_wp2_with fail
   obtain⟨W2,hW2⟩:∃W2,(((W1.setCell ⟨b,0,none⟩ (.slice p0 n0 q0)).setCell ⟨b,1,none⟩ (.int .i64 x.1.2.type)).setCell ⟨b,2,none⟩ (.int .u32 (x.1.2.ttl:Int))).setCell ⟨b,3,none⟩ (.slice none 0 0)=W2:=⟨_,rfl⟩;have hb2:Below wr.heap.size wr W2:=by
    subst hW2;exact (((hb1.setCell (p:=⟨b,0,none⟩) hbb _).setCell (p:=⟨b,1,none⟩) hbb _).setCell (p:=⟨b,2,none⟩) hbb _).setCell (p:=⟨b,3,none⟩) hbb _
   have hblk2:Blk b #[.slice p0 n0 q0,.int .i64 x.1.2.type,.int .u32 (x.1.2.ttl:Int),.slice none 0 0] 89 W2:=by
    subst hW2;exact (((hblk.setAt 0 _).setAt 1 _).setAt 2 _).setAt 3 _
   rw[hW2];refine hK _ _ (fun h=>absurd h (by decide)) ?_
   clear hK K hW2 hc0 hc1 hc2 hc3 hz0 hz1 hz2 hz3 hblk hb1;refine Z9 (by kernel_rfl) ?_
   have HSG:Hid (SgI wr b x (.slice p0 n0 q0) (x::xs) 0 W2):=⟨⟨none,0,hblk2,Row.nil _ _ _ _⟩,hb2,fun j _ h=>by omega,Nat.zero_le _,hbb⟩
   clear hb2 hblk2;have HBX:Hid (∀W,Below wr.heap.size wr W->W.cell? ⟨bl,0,none⟩=some (.slice (some a) m c)):=fun W h=>(h.cell (zG HC0.out)).trans HC0.out
   obtain⟨wo,rfl⟩:∃wo,wo=wr:=⟨_,rfl⟩;gi_wp2
   gi_loopw [4] (fun v4 W=>∃n:Nat,v4=.int .i64 n/\SgI wo b x (.slice p0 n0 q0) (x::xs) n W) (fun v4 _=>m-(intOf v4).toNat)
   case atStart=>exact⟨0,rfl,HSG.out⟩
   case round =>
    obtain⟨n,rfl,hI⟩:=hrel;obtain⟨od,cd,hbs,hrow⟩:=hI.bs;by_cases hlt:n<m
    ·have hnz:(n:Int)<(m:Int):=by omega
     have hnk:n<(x::xs).length:=by rw[HM.out];exact hlt
     obtain⟨y,hy⟩:∃y,(x::xs)[n]=y:=⟨_,rfl⟩;obtain⟨r0,k0,t0,r1,k1,t1,r2,k2,t2,r3,k3,t3,r4,k4,t4,ey⟩:=y.cells;obtain⟨e,he⟩:=Zq (a.add (n*7));have HY7:Hid (∀W',Below wo.heap.size wo W'->Bxa7 e (.slice r0 k0 t0) (.int .u32 (y.1.2.ttl:Int)) (.int .i64 y.1.2.type) (.slice r1 k1 t1) (.slice r2 k2 t2) (.slice r3 k3 t3) (.slice r4 k4 t4) W'):=fun W' hW'=>by
      obtain⟨a',ha',y0,y1,y2,y3,y4,y5,y6⟩:=HEL.out _ hW' n hnk _ _ _ _ _ _ _ (by rw[hy];exact ey)
      cases ha';rw[he] at y0 y1 y2 y3 y4 y5 y6;exact⟨y0,y1,y2,y3,y4,y5,y6⟩
     obtain⟨tt,htt⟩:∃tt,Rs.ttl x.1.2 (plE ((x::xs).take n))=tt:=⟨_,rfl⟩;rw[htt] at hbs;have HRow:=Hd hrow;have HBS:=Hd hbs;have HI:=Hd hI;have HY:=Hd hy;have HEY:=Hd ey;have HTT:=Hd htt;have hRg:(Rg bl (.slice (some a) m c) b (.slice p0 n0 q0) (.int .i64 x.1.2.type) (.int .u32 (tt:Int)) (.slice od n cd) e (.slice r0 k0 t0) (.int .u32 (y.1.2.ttl:Int)) (.int .i64 y.1.2.type) (.slice r1 k1 t1) (.slice r2 k2 t2) (.slice r3 k3 t3) (.slice r4 k4 t4)) wr:=⟨HBX.out _ hI.below,Bx4.of hbs,HY7.out _ hI.below⟩;clear hrow hbs hI hy ey htt;gi_wp2_with fail
     refine Z8 [0,1,2,3,4,5,6,7,8,9,10,11] (Rg bl (.slice (some a) m c) b (.slice p0 n0 q0) (.int .i64 x.1.2.type) (.int .u32 (tt:Int)) (.slice od n cd) e (.slice r0 k0 t0) (.int .u32 (y.1.2.ttl:Int)) (.int .i64 y.1.2.type) (.slice r1 k1 t1) (.slice r2 k2 t2) (.slice r3 k3 t3) (.slice r4 k4 t4)) 12 rfl (by kernel_rfl) ?_
     intro w3 hw3;have hS:(Rg bl (.slice (some a) m c) b (.slice p0 n0 q0) (.int .i64 x.1.2.type) (.int .u32 (tt:Int)) (.slice od n cd) e (.slice r0 k0 t0) (.int .u32 (y.1.2.ttl:Int)) (.int .i64 y.1.2.type) (.slice r1 k1 t1) (.slice r2 k2 t2) (.slice r3 k3 t3) (.slice r4 k4 t4)) w3:=by subst hw3;exact hRg
     have hb3:Below wr.heap.size wr w3:=by subst hw3;exact (Below.refl _ _).drew
     clear hw3 hRg;have hnd:decide (n<m)=true:=by simp[hlt]
     refine tH 0 ?qav0 hS (fun w1 ⟨g0,⟨g1,g2,g3,g4⟩,g5,g6,g7,g8,g9,g10,g11⟩=>?qay0) ?_
     case qay0=>go_simp;try rfl
     refine tH 1 ?qav1 hS (fun w1 ⟨g0,⟨g1,g2,g3,g4⟩,g5,g6,g7,g8,g9,g10,g11⟩=>?qay1) ?_
     case qay1=>go_simp;try rfl
     refine tH 2 ?qav2 hS (fun w1 ⟨g0,⟨g1,g2,g3,g4⟩,g5,g6,g7,g8,g9,g10,g11⟩=>?qay2) ?_
     case qay2=>go_simp;try rfl
     refine tH 3 ?qav3 hS (fun w1 ⟨g0,⟨g1,g2,g3,g4⟩,g5,g6,g7,g8,g9,g10,g11⟩=>?qay3) ?_
     case qay3=>go_simp;try rfl
     refine tH 4 ?qav4 hS (fun w1 ⟨g0,⟨g1,g2,g3,g4⟩,g5,g6,g7,g8,g9,g10,g11⟩=>?qay4) ?_
     case qay4=>go_simp;try rfl
     refine tH 7 ?qav7 hS (fun w1 ⟨g0,⟨g1,g2,g3,g4⟩,g5,g6,g7,g8,g9,g10,g11⟩=>?qay7) ?_
     case qay7=>go_simp;try rfl
     refine tH 6 ?qav6 hS (fun w1 ⟨g0,⟨g1,g2,g3,g4⟩,g5,g6,g7,g8,g9,g10,g11⟩=>?qay6) ?_
     case qay6=>go_simp;try rfl
     refine tH 8 ?qav8 hS (fun w1 ⟨g0,⟨g1,g2,g3,g4⟩,g5,g6,g7,g8,g9,g10,g11⟩=>?qay8) ?_
     case qay8=>go_simp;try rfl
     refine tH 5 ?qav5 hS (fun w1 ⟨g0,⟨g1,g2,g3,g4⟩,g5,g6,g7,g8,g9,g10,g11⟩=>?qay5) ?_
     case qay5=>go_simp;try rfl
     refine tH 9 ?qav9 hS (fun w1 ⟨g0,⟨g1,g2,g3,g4⟩,g5,g6,g7,g8,g9,g10,g11⟩=>?qay9) ?_
     case qay9=>go_simp;try rfl
     simp only[Act.put,Za,Zd,Zc];obtain⟨bz,hbz⟩:=Zq (Rs.P x.1.2 y.1.2);have HPZ:=Hd hbz;have hbw3:Below w.heap.size w w3:=Z5 (Z5 HA.out.below HI.out.below) hb3;have HIS:=Hd (setIs_any y (.slice p0 n0 q0) (.slice od n cd) x.1.2.type tt x.1.2.owner w3 hbw3 ((x.ownerRd HX.out).below hbw3) x.2.2.owner);rw[HEY.out,show ((x.1.2.type == y.1.2.type)&&Nm.same x.1.2.owner y.1.2.owner)=bz from hbz] at HIS
     clear hbz hbw3;refine oneH 10 (by rfl) (by kernel_rfl) (fun K hK=>?_)
     gi_wp2_with (gi_at_call 104;refine (callsIn_wide.2 HIS.out).mono ?_;rintro e5 w5 ⟨rfl,b5⟩)
     have hS5:=hS.kept (CellsKept.below b5);have hb5:=Z5 hb3 b5;clear hS hb3 b5 HIS;refine hK _ _ (fun _=>hS5) ?_
     clear hK K;have hS:=hS5;clear hS5;refine tH 11 ?qav11 hS (fun w1 ⟨g0,⟨g1,g2,g3,g4⟩,g5,g6,g7,g8,g9,g10,g11⟩=>?qay11) ?_
     case qay11=>go_simp;try rfl
     simp only[Act.put,Za,Zd,Zc];refine Z9 (by kernel_rfl) ?_
     cases bz with
     | true =>
      gi_wp2_with fail
      refine Z8 [0,1,2,3,4,5,6,7,8] (Rg bl (.slice (some a) m c) b (.slice p0 n0 q0) (.int .i64 x.1.2.type) (.int .u32 (tt:Int)) (.slice od n cd) e (.slice r0 k0 t0) (.int .u32 (y.1.2.ttl:Int)) (.int .i64 y.1.2.type) (.slice r1 k1 t1) (.slice r2 k2 t2) (.slice r3 k3 t3) (.slice r4 k4 t4)) 10 rfl (by kernel_rfl) ?_
      intro w6 hw6;have hS6:(Rg bl (.slice (some a) m c) b (.slice p0 n0 q0) (.int .i64 x.1.2.type) (.int .u32 (tt:Int)) (.slice od n cd) e (.slice r0 k0 t0) (.int .u32 (y.1.2.ttl:Int)) (.int .i64 y.1.2.type) (.slice r1 k1 t1) (.slice r2 k2 t2) (.slice r3 k3 t3) (.slice r4 k4 t4)) w6:=by subst hw6;exact hS
      have hb6:Below wr.heap.size wr w6:=by subst hw6;exact hb5.drew
      clear hw6 hS hb5;have hS:=hS6;clear hS6;refine tH 0 ?qbv0 hS (fun w1 ⟨g0,⟨g1,g2,g3,g4⟩,g5,g6,g7,g8,g9,g10,g11⟩=>?qby0) ?_
      case qby0=>go_simp;try rfl
      refine tH 3 ?qbv3 hS (fun w1 ⟨g0,⟨g1,g2,g3,g4⟩,g5,g6,g7,g8,g9,g10,g11⟩=>?qby3) ?_
      case qby3=>go_simp;try rfl
      refine tH 1 ?qbv1 hS (fun w1 ⟨g0,⟨g1,g2,g3,g4⟩,g5,g6,g7,g8,g9,g10,g11⟩=>?qby1) ?_
      case qby1=>go_simp;try rfl
      refine tH 2 ?qbv2 hS (fun w1 ⟨g0,⟨g1,g2,g3,g4⟩,g5,g6,g7,g8,g9,g10,g11⟩=>?qby2) ?_
      case qby2=>go_simp;try rfl
      refine tH 4 ?qbv4 hS (fun w1 ⟨g0,⟨g1,g2,g3,g4⟩,g5,g6,g7,g8,g9,g10,g11⟩=>?qby4) ?_
      case qby4=>go_simp;try rfl
      refine tH 5 ?qbv5 hS (fun w1 ⟨g0,⟨g1,g2,g3,g4⟩,g5,g6,g7,g8,g9,g10,g11⟩=>?qby5) ?_
      case qby5=>go_simp;try rfl
      refine tH 6 ?qbv6 hS (fun w1 ⟨g0,⟨g1,g2,g3,g4⟩,g5,g6,g7,g8,g9,g10,g11⟩=>?qby6) ?_
      case qby6=>go_simp;try rfl
      refine tH 7 ?qbv7 hS (fun w1 ⟨g0,⟨g1,g2,g3,g4⟩,g5,g6,g7,g8,g9,g10,g11⟩=>?qby7) ?_
      case qby7=>go_simp;try rfl
      refine tH 8 ?qbv8 hS (fun w1 ⟨g0,⟨g1,g2,g3,g4⟩,g5,g6,g7,g8,g9,g10,g11⟩=>?qby8) ?_
      case qby8=>go_simp;try rfl
      simp only[Act.put,Za,Zd,Zc];obtain⟨_,⟨_,_,d2,_⟩,_⟩:=id hS;have f2:=((HBS.out.below hb6).frozen 2);refine oneH 9 (by rfl) (by kernel_rfl) (fun K hK=>?_)
      gi_wp2_with fail
      have hmn:(min (tt:Int) (y.1.2.ttl:Int))=((min tt y.1.2.ttl:Nat):Int):=by omega
      rw[hmn];obtain⟨W7,hW7⟩:∃W7,w6.setCell ⟨b,2,none⟩ (.int .u32 ((min tt y.1.2.ttl:Nat):Int))=W7:=⟨_,rfl⟩;rw[hW7];have hbo6:Below wo.heap.size wo w6:=HI.out.below.trans (hb6.mono HI.out.below.size);have hbo7:Below wo.heap.size wo W7:=by subst hW7;exact hbo6.setCell (p:=⟨b,2,none⟩) hbb _
      have hbl7:Blk b #[.slice p0 n0 q0,.int .i64 x.1.2.type,.int .u32 ((min tt y.1.2.ttl:Nat):Int),.slice od n cd] 89 W7:=by subst hW7;exact (HBS.out.below hb6).setAt 2 _
      have hrow7:Row (fun g=>wo.heap.size<=g/\g≠b) 107 5 (.slice od n cd) n (((x::xs).take n).flatMap encD) W7:=by subst hW7;exact (HRow.out.below hb6).setOther (fun h=>h.2 rfl) _
      refine hK _ _ (fun h=>absurd h (by decide)) ?_
      clear hK K d2 f2 hS hb6 hbo6 hW7 hmn;refine Z9 (by kernel_rfl) ?_
      have hS:(Rg bl (.slice (some a) m c) b (.slice p0 n0 q0) (.int .i64 x.1.2.type) (.int .u32 ((min tt y.1.2.ttl:Nat):Int)) (.slice od n cd) e (.slice r0 k0 t0) (.int .u32 (y.1.2.ttl:Int)) (.int .i64 y.1.2.type) (.slice r1 k1 t1) (.slice r2 k2 t2) (.slice r3 k3 t3) (.slice r4 k4 t4)) W7:=⟨HBX.out _ hbo7,Bx4.of hbl7,HY7.out _ hbo7⟩;gi_wp2_with fail
      refine Z8 [0,1,2,3,4,5,6,7,8,9] (Rg bl (.slice (some a) m c) b (.slice p0 n0 q0) (.int .i64 x.1.2.type) (.int .u32 ((min tt y.1.2.ttl:Nat):Int)) (.slice od n cd) e (.slice r0 k0 t0) (.int .u32 (y.1.2.ttl:Int)) (.int .i64 y.1.2.type) (.slice r1 k1 t1) (.slice r2 k2 t2) (.slice r3 k3 t3) (.slice r4 k4 t4)) 11 rfl (by kernel_rfl) ?_
      intro w8 hw8;have hS8:(Rg bl (.slice (some a) m c) b (.slice p0 n0 q0) (.int .i64 x.1.2.type) (.int .u32 ((min tt y.1.2.ttl:Nat):Int)) (.slice od n cd) e (.slice r0 k0 t0) (.int .u32 (y.1.2.ttl:Int)) (.int .i64 y.1.2.type) (.slice r1 k1 t1) (.slice r2 k2 t2) (.slice r3 k3 t3) (.slice r4 k4 t4)) w8:=by subst hw8;exact hS
      have hbo8:Below wo.heap.size wo w8:=by subst hw8;exact hbo7.drew
      have hbl8:Blk b #[.slice p0 n0 q0,.int .i64 x.1.2.type,.int .u32 ((min tt y.1.2.ttl:Nat):Int),.slice od n cd] 89 w8:=by subst hw8;exact hbl7
      have hrow8:Row (fun g=>wo.heap.size<=g/\g≠b) 107 5 (.slice od n cd) n (((x::xs).take n).flatMap encD) w8:=by subst hw8;exact hrow7.drew
      clear hw8 hS hbo7 hbl7 hrow7;have hS:=hS8;clear hS8;refine tH 0 ?qcv0 hS (fun w1 ⟨g0,⟨g1,g2,g3,g4⟩,g5,g6,g7,g8,g9,g10,g11⟩=>?qcy0) ?_
      case qcy0=>go_simp;try rfl
      refine tH 3 ?qcv3 hS (fun w1 ⟨g0,⟨g1,g2,g3,g4⟩,g5,g6,g7,g8,g9,g10,g11⟩=>?qcy3) ?_
      case qcy3=>go_simp;try rfl
      refine tH 2 ?qcv2 hS (fun w1 ⟨g0,⟨g1,g2,g3,g4⟩,g5,g6,g7,g8,g9,g10,g11⟩=>?qcy2) ?_
      case qcy2=>go_simp;try rfl
      refine tH 4 ?qcv4 hS (fun w1 ⟨g0,⟨g1,g2,g3,g4⟩,g5,g6,g7,g8,g9,g10,g11⟩=>?qcy4) ?_
      case qcy4=>go_simp;try rfl
      refine tH 5 ?qcv5 hS (fun w1 ⟨g0,⟨g1,g2,g3,g4⟩,g5,g6,g7,g8,g9,g10,g11⟩=>?qcy5) ?_
      case qcy5=>go_simp;try rfl
      refine tH 1 ?qcv1 hS (fun w1 ⟨g0,⟨g1,g2,g3,g4⟩,g5,g6,g7,g8,g9,g10,g11⟩=>?qcy1) ?_
      case qcy1=>go_simp;try rfl
      refine tH 6 ?qcv6 hS (fun w1 ⟨g0,⟨g1,g2,g3,g4⟩,g5,g6,g7,g8,g9,g10,g11⟩=>?qcy6) ?_
      case qcy6=>go_simp;try rfl
      simp only[Act.put,Za,Zd,Zc];refine oneH 7 (by rfl) (by kernel_rfl) (fun K hK=>?_)
      gi_wp2_with fail
      obtain⟨W9,hW9⟩:=Zq (w8.alloc (.cells #[.int .i64 y.1.2.type,.slice r1 k1 t1,.slice r2 k2 t2,.slice r3 k3 t3,.slice r4 k4 t4] 107));rw[hW9];have hS9:(Rg bl (.slice (some a) m c) b (.slice p0 n0 q0) (.int .i64 x.1.2.type) (.int .u32 ((min tt y.1.2.ttl:Nat):Int)) (.slice od n cd) e (.slice r0 k0 t0) (.int .u32 (y.1.2.ttl:Int)) (.int .i64 y.1.2.type) (.slice r1 k1 t1) (.slice r2 k2 t2) (.slice r3 k3 t3) (.slice r4 k4 t4)) W9:=by subst hW9;exact hS.kept (CellsKept.alloc _ _)
      have hbo9:Below wo.heap.size wo W9:=by subst hW9;exact hbo8.alloc hbo8.size _
      have hbl9:Blk b #[.slice p0 n0 q0,.int .i64 x.1.2.type,.int .u32 ((min tt y.1.2.ttl:Nat):Int),.slice od n cd] 89 W9:=by subst hW9;exact hbl8.alloc _
      have hrow9:Row (fun g=>wo.heap.size<=g/\g≠b) 107 5 (.slice od n cd) n (((x::xs).take n).flatMap encD) W9:=by subst hW9;exact hrow8.alloc _
      have hone:DatsRd (.slice (some ⟨w8.heap.size,0,none⟩) 1 1) [y] W9:=by subst hW9;exact dats_one y (by unfold encD;rw[HEY.out];rfl)
      have hz9:wo.heap.size<=W9.heap.size/\W9.heap.size≠b:=by have:=hbo9.size;have:=hbl9.lt;omega
      refine hK _ _ (fun _=>hS9) ?_
      clear hK K hW9 hS hbo8 hbl8 hrow8;have hS:=hS9;clear hS9;have HN1:=Hd (show n+[y].length<=100000 by simp;omega)
      refine oneH 8 (by rfl) (by kernel_rfl) (fun K hK=>?_)
      gi_wp2_with (gi_at_builtin;refine append_dats (fun g=>wo.heap.size<=g/\g≠b) rfl _ _ _ Tryz.underlying87 rfl _ n (((x::xs).take n).flatMap encD) (by rfl) hrow9 _ [y] (by rfl) hone HN1.out hz9 ?_;intro v10 w10 hrow10 hgr10)
      have hbo10:Below wo.heap.size wo w10:=hbo9.grown hgr10 hbo9.size (fun g hg=>(hrow9.2 g hg).1)
      have hbl10:Blk b #[.slice p0 n0 q0,.int .i64 x.1.2.type,.int .u32 ((min tt y.1.2.ttl:Nat):Int),.slice od n cd] 89 w10:=(hgr10.block b hbl9.lt (fun e=>(hrow9.2 b e.symm).2 rfl)).trans hbl9
      have hS10:(Rg bl (.slice (some a) m c) b (.slice p0 n0 q0) (.int .i64 x.1.2.type) (.int .u32 ((min tt y.1.2.ttl:Nat):Int)) (.slice od n cd) e (.slice r0 k0 t0) (.int .u32 (y.1.2.ttl:Int)) (.int .i64 y.1.2.type) (.slice r1 k1 t1) (.slice r2 k2 t2) (.slice r3 k3 t3) (.slice r4 k4 t4)) w10:=⟨HBX.out _ hbo10,Bx4.of hbl10,HY7.out _ hbo10⟩;refine hK _ _ (fun _=>hS10) ?_
      clear hK K hS hbo9 hbl9 hrow9 hone hz9 hgr10;have hS:=hS10;clear hS10;obtain⟨o11,c11,rfl⟩:=hrow10.form;refine tH 9 ?qcv9 hS (fun w1 ⟨g0,⟨g1,g2,g3,g4⟩,g5,g6,g7,g8,g9,g10,g11⟩=>?qcy9) ?_
      case qcy9=>go_simp;try rfl
      simp only[Act.put,Za,Zd,Zc];obtain⟨_,⟨_,_,_,d3⟩,_⟩:=id hS;have f3:=hbl10.frozen 3;refine oneH 10 (by rfl) (by kernel_rfl) (fun K hK=>?_)
      gi_wp2_with fail
      obtain⟨W12,hW12⟩:=Zq (w10.setCell ⟨b,3,none⟩ (.slice o11 (n+[y].length) c11));have hbo12:Below wo.heap.size wo W12:=by subst hW12;exact hbo10.setCell (p:=⟨b,3,none⟩) hbb _
      have hbl12:Blk b #[.slice p0 n0 q0,.int .i64 x.1.2.type,.int .u32 ((min tt y.1.2.ttl:Nat):Int),.slice o11 (n+[y].length) c11] 89 W12:=by subst hW12;exact hbl10.setAt 3 _
      have hrow12:=show Row (fun g=>wo.heap.size<=g/\g≠b) 107 5 (.slice o11 (n+[y].length) c11) (n+[y].length) (((x::xs).take n).flatMap encD++[y].flatMap encD) W12 by subst hW12;exact hrow10.setOther (fun h=>h.2 rfl) _
      first|rw[hW12]|(simp only[Ze,Zg,Nat.zero_add] at hW12;rw[hW12])
      refine hK _ _ (fun h=>absurd h (by decide)) ?_
      clear hK K hW12 d3 f3 hS hbo10 hbl10 hrow10;refine Z9 (by kernel_rfl) ?_
      gi_wp2_with fail
      have htk:(x::xs).take (n+1)=(x::xs).take n++[y]:=by rw[Zx hnk,HY.out]
      refine⟨⟨n+1,by go_num,⟨o11,c11,?_,?_⟩,hbo12,fun j hj hjn=>?_,hnk,hbb⟩,by simp[intOf];omega⟩
      ·rw[htk,show plE ((x::xs).take n++[y])=plE ((x::xs).take n)++[y.1.2] by simp[plE],Rs.ttl_snoc,HTT.out]
       exact hbl12
      ·rw[htk,List.flatMap_append]
       exact hrow12
      ·rcases Nat.lt_succ_iff_lt_or_eq.1 hjn with h|h
       ·exact HI.out.all j hj h
       ·subst h;rw[HY.out];exact HPZ.out
     | false =>
      have HE:Hid (SgI wo b x (.slice p0 n0 q0) (x::xs) n w5):=Hd (SgI.on HI.out hb5);have HRUN:Hid (Rs.run x.1.2 (plE (x::xs))=n):=Rs.run_of _ _ _ (by simpa[plE] using Nat.le_of_lt hnk) (fun j hj hjn=>by
       have hj':j<(x::xs).length:=by simpa[plE] using hj
       rw[plE_get];exact HI.out.all j hj' hjn) (fun h=>by
       rw[plE_get,HY.out];exact HPZ.out)
      have HNPOS:Hid (0<n):=by show 0<n;rw[<-HRUN.out];exact Rs.run_pos _ _
      clear hS hb5 HRow HBS HTT HY7 hlt hnz hnd HI he;obtain⟨od,cd,hbs,hrow⟩:=HE.out.bs;have h3c:w5.cell? ⟨b,3,none⟩=some _:=hbs.cell 3;have h3f:=hbs.frozen 3;have hbo:=HE.out.below;obtain⟨tt,htt⟩:∃tt,Rs.ttl x.1.2 (plE ((x::xs).take n))=tt:=⟨_,rfl⟩;rw[htt] at hbs;have hnl:((x::xs).take n).length=n:=by rw[List.length_take];have:=HE.out.le;omega
      have hdr:DatsRd (.slice od n cd) ((x::xs).take n) w5:=by
       have h2:Row (fun g=>wo.heap.size<=g/\g≠b) 107 5 (.slice od n cd) ((x::xs).take n).length (((x::xs).take n).flatMap encD) w5:=by rw[hnl];exact hrow
       exact Row.dats h2
      have hodb:∀a',od=some a'->a'.block≠b:=fun a' ha=>by
       subst ha;exact (hrow.2 a'.block rfl).2
      have hcl:=clipDat_any od cd ((x::xs).take n) w5 (by rw[hnl];exact hdr) (by rw[hnl];have:=HE.out.le;rw[HM.out] at this;omega)
      rw[hnl] at hcl;have HCL:=Hd hcl;have hdc:=DatsRd.clip (o:=od) (cap:=cd) (l:=(x::xs).take n) (by rw[hnl];exact hdr)
      rw[hnl] at hdc;obtain⟨Wz,hWz⟩:=Zq (w5.setCell ⟨b,3,none⟩ (.slice od n n));have hbz:Below wo.heap.size wo Wz:=by subst hWz;exact hbo.setCell (p:=⟨b,3,none⟩) hbb _
      have hblz:Blk b #[.slice p0 n0 q0,.int .i64 x.1.2.type,.int .u32 (tt:Int),.slice od n n] 89 Wz:=by subst hWz;exact hbs.setAt 3 _
      have hdz:DatsRd (.slice od n n) ((x::xs).take n) Wz:=by subst hWz;exact hdc.set hodb _
      have htyp:∀a',od=some a'->∃cur f,Wz.heap[a'.block]? = some (.cells cur 107 f):=fun a' ha=>by
       subst ha;obtain⟨⟨_,ho⟩,_⟩:=id hrow;rcases ho with⟨h0,_⟩|⟨g,cap,cur,h0,_,hg,_⟩
       ·cases h0
       ·cases h0
        refine⟨cur,(0,0),?_⟩;subst hWz;exact (Below.heap_setCell _ _ _ _ (hodb _ rfl)).trans hg
      have HTYP:=Hd htyp;clear htyp;have i0:Wz.cell? ⟨b,0,none⟩=some _:=hblz.cell 0;have i1:Wz.cell? ⟨b,1,none⟩=some _:=hblz.cell 1;have i2:Wz.cell? ⟨b,2,none⟩=some _:=hblz.cell 2;have i3:Wz.cell? ⟨b,3,none⟩=some _:=hblz.cell 3;have hJz:J (x::xs) Wz:=hJs _ _ _ hJ ⟨⟨hbz.os,hbz.tape,hbz.output,hbz.size,fun k hk _=>hbz.block k hk⟩,by
       obtain⟨_,_,hbx,_⟩:=HA.out.bx;exact⟨_,_,_,hbx⟩⟩
      obtain⟨fn,tmps,assign,body,hy,hR⟩:=hY (x::xs) ((x::xs).drop n) _ Wz hJz ⟨x,xs,n,rfl,HRUN.out.symm,HE.out.le,rfl,.slice p0 n0 q0,od,n,rfl,x.ownerRd HX.out,hdz,fun a' ha=>⟨by
       subst ha;have h1:=(hrow.2 a'.block rfl).1;obtain⟨_,_,hbx,_⟩:=HA.out.bx;have h2:=hbx.lt;omega,HTYP.out a' ha⟩⟩
      rw[htt] at hy;have HAZ:=Hd (HA.out.on hbz);have HNLE:=Hd (show n<=m by have:=HE.out.le;rw[HM.out] at this;exact this)
      have hnm:(n:Int)<=(m:Int):=by have:=HNLE.out;omega
      have HBZ:=Hd hbz;have HCZ:=Hd HBX.out;clear hbs hrow hbo htt hdr hodb hcl hdc hbz hblz hdz hJz HBX HEL;gi_wp2_with fail
      refine (callsIn_wide.2 HCL.out).mono ?_;rintro ez Wy ⟨rfl,rfl⟩;gi_wp2_with fail
      refine hR.mono ?_;rintro ew W9 (⟨rfl,hJ9,hk9⟩|⟨rfl,hJx9⟩)
      ·have HA9:=Hd (HAZ.out.kp hk9 hsk)
       obtain⟨o9,c9,hbx9,hrd9,hoo9⟩:=HA9.out.bx;rw[HM.out] at hbx9 hrd9;have hq:Wz.cell? ⟨bl,0,none⟩=some (.slice (some a) m c):=HCZ.out _ HBZ.out;have hq9:W9.cell? ⟨bl,0,none⟩=some (.slice o9 m c9):=hbx9.cell;have he9:(Value.slice (some a) m c)=.slice o9 m c9:=by
        have:=(hk9.1.cell (p:=⟨bl,0,none⟩) hsk)
        rw[hq,hq9] at this;exact (Option.some.inj this).symm
       cases he9;have hf9:=hbx9.frozen;have hbnd:m<=c/\c<=9223372036854775807:=by
        obtain⟨_,o',c',e',h1,h2,_⟩:=hrd9;rw[Zf,HM.out] at e' h1;cases e';unfold maxLen at h2;exact⟨h1,by omega⟩
       obtain⟨hbd1,hbd2⟩:=hbnd;have hrq:RecsRd (.slice (if c=n then some a else some (a.add (n*7))) ((x::xs).length-n) (c-n)) (((x::xs).drop n).map (·.1)) W9:=by
        have hrd9':RecsRd (.slice (some a) (x::xs).length c) ((x::xs).map (·.1)) W9:=by rw[HM.out];exact hrd9
        split
        ·rename_i hcn
         rw[show c-n=0 by omega]
         exact RecsRd.tail0 hrd9' n (by rw[HM.out];exact HNLE.out) hcn
        ·exact RecsRd.tail (o:=some a) hrd9' n (by rw[HM.out];exact HNLE.out)
       have HN1:=Hd (SetsAt.next HA9.out hbl (show Box bl 52 (.slice (some a) (x::xs).length c) W9 by rw[HM.out];exact hbx9) n (by rw[HM.out];exact HNLE.out) _ (c-n) hrq (fun a' h=>⟨a,rfl,by split at h<;>cases h<;>first|rfl|exact add_block a _⟩))
       rw[HM.out] at HN1;have HST:=Hd (fun v:Value=>hJs _ W9 (W9.setCell ⟨bl,0,none⟩ v) hJ9 ⟨grownBy_setCell' W9 bl v,⟨_,_,_,hbx9⟩⟩)
       have HSE:=Hd (fun u:Value=>(hbx9.set u).cell)
       clear hrd9 hoo9 hbx9 hJ9 hk9 hq hrq;gi_wp2_with fail
       go_roundw
       case rel=>exact⟨(x::xs).drop n,by simp only[List.length_drop,HM.out];omega,HST.out _,HN1.out⟩
       case measure =>
        have g:=HSE.out (.slice (if c=n then some a else some (a.add (n*7))) (m-n) (c-n))
        have g0:=HC0.out;have g1:=HNPOS.out;simp only[lenAt,g,g0];omega
      ·gi_wp2
       refine bodyPost_ret (results_none rfl _ _ _) rfl ?_;exact⟨⟨_,rfl⟩,.inr hJx9⟩
    ·have hnm':n=m:=by have:=hI.le;rw[HM.out] at this;omega
     have HNM:=Hd hnm';clear hnm';have HI:=Hd hI;have HBS:=Hd hbs;have hcb:=HBX.out _ hI.below;have hnz:¬((n:Int)<(m:Int)):=by omega
     clear hI hbs hrow;gi_wp2_with fail
     refine Z8 [0,1,2,3,4,5,6,7,8,9,10,11] (fun W=>W.cell? ⟨bl,0,none⟩=some (.slice (some a) m c)) 12 rfl (by kernel_rfl) ?_
     intro w3 hw3;have hS:w3.cell? ⟨bl,0,none⟩=some (.slice (some a) m c):=by subst hw3;exact hcb
     have hb3:Below wr.heap.size wr w3:=by subst hw3;exact (Below.refl _ _).drew
     clear hw3 hcb;have hnd:decide (n<m)=false:=by simp;omega
     refine tA 0 hS ?_;refine tA 1 hS ?_;refine tA 2 hS ?_;refine tA 3 hS ?_;refine tA 4 hS ?_;refine tU 7 hS ?_;refine tU 6 hS ?_;refine tU 8 hS ?_;refine tU 5 hS ?_;refine tU 9 hS ?_;refine tU 10 hS ?_;refine tA 11 hS ?_;simp only[Act.put,Za,Zd,Zc];refine Z9 (by kernel_rfl) ?_
     have HE:Hid (SgI wo b x (.slice p0 n0 q0) (x::xs) n w3):=Hd (SgI.on HI.out hb3);have HRUN:Hid (Rs.run x.1.2 (plE (x::xs))=n):=Rs.run_of _ _ _ (by have:=HNM.out;have:=HM.out;simp[plE] at this ⊢;omega) (fun j hj hjn=>by
      have hj':j<(x::xs).length:=by simpa[plE] using hj
      rw[plE_get];exact HI.out.all j hj' hjn) (fun h=>by
      exfalso
      have h1:=HNM.out;have h2:=HM.out;simp[plE] at h h2;omega)
     have HNPOS:Hid (0<n):=by show 0<n;rw[<-HRUN.out];exact Rs.run_pos _ _
     clear hS hb3 hlt hnz hnd HI HBS HNM;obtain⟨od,cd,hbs,hrow⟩:=HE.out.bs;have h3c:w3.cell? ⟨b,3,none⟩=some _:=hbs.cell 3;have h3f:=hbs.frozen 3;have hbo:=HE.out.below;obtain⟨tt,htt⟩:∃tt,Rs.ttl x.1.2 (plE ((x::xs).take n))=tt:=⟨_,rfl⟩;rw[htt] at hbs;have hnl:((x::xs).take n).length=n:=by rw[List.length_take];have:=HE.out.le;omega
     have hdr:DatsRd (.slice od n cd) ((x::xs).take n) w3:=by
      have h2:Row (fun g=>wo.heap.size<=g/\g≠b) 107 5 (.slice od n cd) ((x::xs).take n).length (((x::xs).take n).flatMap encD) w3:=by rw[hnl];exact hrow
      exact Row.dats h2
     have hodb:∀a',od=some a'->a'.block≠b:=fun a' ha=>by
      subst ha;exact (hrow.2 a'.block rfl).2
     have hcl:=clipDat_any od cd ((x::xs).take n) w3 (by rw[hnl];exact hdr) (by rw[hnl];have:=HE.out.le;rw[HM.out] at this;omega)
     rw[hnl] at hcl;have HCL:=Hd hcl;have hdc:=DatsRd.clip (o:=od) (cap:=cd) (l:=(x::xs).take n) (by rw[hnl];exact hdr)
     rw[hnl] at hdc;obtain⟨Wz,hWz⟩:=Zq (w3.setCell ⟨b,3,none⟩ (.slice od n n));have hbz:Below wo.heap.size wo Wz:=by subst hWz;exact hbo.setCell (p:=⟨b,3,none⟩) hbb _
     have hblz:Blk b #[.slice p0 n0 q0,.int .i64 x.1.2.type,.int .u32 (tt:Int),.slice od n n] 89 Wz:=by subst hWz;exact hbs.setAt 3 _
     have hdz:DatsRd (.slice od n n) ((x::xs).take n) Wz:=by subst hWz;exact hdc.set hodb _
     have htyp:∀a',od=some a'->∃cur f,Wz.heap[a'.block]? = some (.cells cur 107 f):=fun a' ha=>by
      subst ha;obtain⟨⟨_,ho⟩,_⟩:=id hrow;rcases ho with⟨h0,_⟩|⟨g,cap,cur,h0,_,hg,_⟩
      ·cases h0
      ·cases h0
       refine⟨cur,(0,0),?_⟩;subst hWz;exact (Below.heap_setCell _ _ _ _ (hodb _ rfl)).trans hg
     have HTYP:=Hd htyp;clear htyp;have i0:Wz.cell? ⟨b,0,none⟩=some _:=hblz.cell 0;have i1:Wz.cell? ⟨b,1,none⟩=some _:=hblz.cell 1;have i2:Wz.cell? ⟨b,2,none⟩=some _:=hblz.cell 2;have i3:Wz.cell? ⟨b,3,none⟩=some _:=hblz.cell 3;have hJz:J (x::xs) Wz:=hJs _ _ _ hJ ⟨⟨hbz.os,hbz.tape,hbz.output,hbz.size,fun k hk _=>hbz.block k hk⟩,by
      obtain⟨_,_,hbx,_⟩:=HA.out.bx;exact⟨_,_,_,hbx⟩⟩
     obtain⟨fn,tmps,assign,body,hy,hR⟩:=hY (x::xs) ((x::xs).drop n) _ Wz hJz ⟨x,xs,n,rfl,HRUN.out.symm,HE.out.le,rfl,.slice p0 n0 q0,od,n,rfl,x.ownerRd HX.out,hdz,fun a' ha=>⟨by
      subst ha;have h1:=(hrow.2 a'.block rfl).1;obtain⟨_,_,hbx,_⟩:=HA.out.bx;have h2:=hbx.lt;omega,HTYP.out a' ha⟩⟩
     rw[htt] at hy;have HAZ:=Hd (HA.out.on hbz);have HNLE:=Hd (show n<=m by have:=HE.out.le;rw[HM.out] at this;exact this)
     have hnm:(n:Int)<=(m:Int):=by have:=HNLE.out;omega
     have HBZ:=Hd hbz;have HCZ:=Hd HBX.out;clear hbs hrow hbo htt hdr hodb hcl hdc hbz hblz hdz hJz HBX HEL;gi_wp2_with fail
     refine (callsIn_wide.2 HCL.out).mono ?_;rintro ez Wy ⟨rfl,rfl⟩;gi_wp2_with fail
     refine hR.mono ?_;rintro ew W9 (⟨rfl,hJ9,hk9⟩|⟨rfl,hJx9⟩)
     ·have HA9:=Hd (HAZ.out.kp hk9 hsk)
      obtain⟨o9,c9,hbx9,hrd9,hoo9⟩:=HA9.out.bx;rw[HM.out] at hbx9 hrd9;have hq:Wz.cell? ⟨bl,0,none⟩=some (.slice (some a) m c):=HCZ.out _ HBZ.out;have hq9:W9.cell? ⟨bl,0,none⟩=some (.slice o9 m c9):=hbx9.cell;have he9:(Value.slice (some a) m c)=.slice o9 m c9:=by
       have:=(hk9.1.cell (p:=⟨bl,0,none⟩) hsk)
       rw[hq,hq9] at this;exact (Option.some.inj this).symm
      cases he9;have hf9:=hbx9.frozen;have hbnd:m<=c/\c<=9223372036854775807:=by
       obtain⟨_,o',c',e',h1,h2,_⟩:=hrd9;rw[Zf,HM.out] at e' h1;cases e';unfold maxLen at h2;exact⟨h1,by omega⟩
      obtain⟨hbd1,hbd2⟩:=hbnd;have hrq:RecsRd (.slice (if c=n then some a else some (a.add (n*7))) ((x::xs).length-n) (c-n)) (((x::xs).drop n).map (·.1)) W9:=by
       have hrd9':RecsRd (.slice (some a) (x::xs).length c) ((x::xs).map (·.1)) W9:=by rw[HM.out];exact hrd9
       split
       ·rename_i hcn
        rw[show c-n=0 by omega]
        exact RecsRd.tail0 hrd9' n (by rw[HM.out];exact HNLE.out) hcn
       ·exact RecsRd.tail (o:=some a) hrd9' n (by rw[HM.out];exact HNLE.out)
      have HN1:=Hd (SetsAt.next HA9.out hbl (show Box bl 52 (.slice (some a) (x::xs).length c) W9 by rw[HM.out];exact hbx9) n (by rw[HM.out];exact HNLE.out) _ (c-n) hrq (fun a' h=>⟨a,rfl,by split at h<;>cases h<;>first|rfl|exact add_block a _⟩))
      rw[HM.out] at HN1;have HST:=Hd (fun v:Value=>hJs _ W9 (W9.setCell ⟨bl,0,none⟩ v) hJ9 ⟨grownBy_setCell' W9 bl v,⟨_,_,_,hbx9⟩⟩)
      have HSE:=Hd (fun u:Value=>(hbx9.set u).cell)
      clear hrd9 hoo9 hbx9 hJ9 hk9 hq hrq;gi_wp2_with fail
      go_roundw
      case rel=>exact⟨(x::xs).drop n,by simp only[List.length_drop,HM.out];omega,HST.out _,HN1.out⟩
      case measure =>
       have g:=HSE.out (.slice (if c=n then some a else some (a.add (n*7))) (m-n) (c-n))
       have g0:=HC0.out;have g1:=HNPOS.out;simp only[lenAt,g,g0];omega
     ·gi_wp2
      refine bodyPost_ret (results_none rfl _ _ _) rfl ?_;exact⟨⟨_,rfl⟩,.inr hJx9⟩
end
end Go.Proofs.YtgmbefolgppmdaaGreat
