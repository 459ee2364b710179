/- A Net among the arguments. -/
import Derived.Test.YtgmbefolgppmdaaGreatLEhG
import Derived.Test.YtgmbefolgppmdaaGreatLRcO
import Derived.OpenShut
import Derived.Test.YtgmbefolgppmdaaGreatLAli
import Derived.Test.YtgmbefolgppmdaaGreatLZnA
namespace Go.Proofs.YtgmbefolgppmdaaGreat
set_option maxRecDepth 100000
section
open Go.RowKit Go.Shelf Go.ChangeShapes Go.WideShapes
section
variable {H:Type} {enc:TypeId × Value->H} {P:Program} {W:World} {base:Nat} {sp:Nat->Bool} {held:Bool}
theorem grd_rows {α:Type} {ea:α->List Value} {t e:TypeId} {K fuel:Nat} {cs:List Value} {x:DataW H × List MemPlace} (ht:P.underlying t=some (.slice e)) (hK:P.cellsOf e=K) (hel:∀n cs' y,DataW.trod enc P W base sp held n e cs'=some y->∃a:α,ea a=cs'/\∀u∈cs',u.oneCell'=true) (h:DataW.trod enc P W base sp held fuel t cs=some x) :
  ∃v,∃l:List α,cs=[v]/\GRd K v (l.map ea) W:=by
 rcases trod_rows ht hK h with rfl|⟨a,len,cap,rfl,hl,hm,hrow⟩
 ·exact⟨_,[],rfl,GRd.nil K W⟩
 ·obtain⟨l,hlen,hq⟩:=list_of (Q:=fun i (x:α)=>(ea x).length=K/\(∀u∈ea x,u.oneCell'=true)/\∀j,j<K->W.cell? ((a.add (i*K)).add j)=(ea x)[j]?) len (fun i hi=>by
   obtain⟨n,cs',y,h1,h2,h3⟩:=hrow i hi;obtain⟨x,rfl,h5⟩:=hel n cs' y h3;exact⟨x,h1,h5,h2⟩)
  subst hlen;refine⟨_,l,rfl,some a,cap,by rw[Zf],by rw[Zf];exact hl,hm,(fun h=>by cases h),fun c hc=>?_,fun i hi c hc=>⟨a,rfl,?_⟩⟩
  ·obtain⟨x,hx,rfl⟩:=List.mem_map.1 hc
   obtain⟨j,hj,rfl⟩:=List.mem_iff_getElem.1 hx;exact⟨(hq j hj).1,(hq j hj).2.1⟩
  ·rw[Zf] at hi
   rw[<-add_add',(hq i hi).2.2 c hc,List.getElem_map]
end
section
variable {H:Type} {enc:TypeId × Value->H} {W:World} {base:Nat} {sp:Nat->Bool} {held:Bool}
theorem zone_of {fuel:Nat} {cs:List Value} {x:DataW H × List MemPlace} (h:DataW.trod enc Tryz.prog W base sp held fuel 54 cs=some x):∃z:ZR W,encZR z=cs/\∀u∈cs,u.oneCell'=true:=by
 obtain⟨xs,n,rfl,_,hl,hx,hf⟩:=DataW.trod_struct Tryz.underlying54 h;rw[show Tryz.prog.cellsOf 54=2 by kernel_rfl] at hl
 match cs,hl with
 | [c0,c1],_ =>
 have one0:Tryz.prog.cellsOf 38=1:=by kernel_rfl
 have one1:Tryz.prog.cellsOf 52=1:=by kernel_rfl
 have hx':xs.length=2:=hx;have f0:DataW.trod enc Tryz.prog W base sp held n 38 (([c0,c1].drop 0).take (Tryz.prog.cellsOf 38))=xs[0]?:=hf 0 _ rfl;have f1:DataW.trod enc Tryz.prog W base sp held n 52 (([c0,c1].drop 1).take (Tryz.prog.cellsOf 52))=xs[1]?:=hf 1 _ rfl;simp only[one0,one1,List.drop_zero,List.drop_succ_cons,List.take_succ_cons,List.take_zero] at f0 f1;rw[zN (by omega)] at f0 f1
 obtain⟨v0,o,e0,r0⟩:=rd_of Tryz.underlying38 Tryz.underlying9 (by kernel_rfl) f0
 obtain⟨v1,l,e1,r1,r2⟩:=recs_of f1;cases e0;cases e1;refine⟨⟨_,_,o,l,r0,r1,r2⟩,rfl,fun u hu=>?_⟩
 obtain⟨o1,p1,rfl,_,_⟩:=r0.form;obtain⟨o2,p2,rfl,_,_⟩:=r1.shape;simp only[List.mem_cons,List.not_mem_nil,or_false] at hu;rcases hu with rfl|rfl<;>rfl
theorem addr_of {fuel:Nat} {cs:List Value} {x:DataW H × List MemPlace} (h:DataW.trod enc Tryz.prog W base sp held fuel 39 cs=some x):∃a b c d:Int,cs=[.int .u8 a,.int .u8 b,.int .u8 c,.int .u8 d]:=by
 obtain⟨xs,n,rfl,rfl,hl,hxl,hel⟩:=DataW.trod_array Tryz.underlying39 h;rw[show Tryz.prog.cellsOf 39=4 by kernel_rfl] at hl
 match cs,hl with
 | [c0,c1,c2,c3],_ =>
 have one0:Tryz.prog.cellsOf 5=1:=by kernel_rfl
 have f0:=hel 0 (by decide)
 have f1:=hel 1 (by decide)
 have f2:=hel 2 (by decide)
 have f3:=hel 3 (by decide)
 simp only[one0,Nat.mul_one,List.drop_zero,List.drop_succ_cons,List.take_succ_cons,List.take_zero] at f0 f1 f2 f3;rw[zN (by omega)] at f0 f1 f2 f3
 obtain⟨z0,e0,_,_⟩:=DataW.trod_int Tryz.underlying5 f0;obtain⟨z1,e1,_,_⟩:=DataW.trod_int Tryz.underlying5 f1;obtain⟨z2,e2,_,_⟩:=DataW.trod_int Tryz.underlying5 f2;obtain⟨z3,e3,_,_⟩:=DataW.trod_int Tryz.underlying5 f3;cases e0;cases e1;cases e2;cases e3;exact⟨z0,z1,z2,z3,rfl⟩
theorem host_of {fuel:Nat} {cs:List Value} {x:DataW H × List MemPlace} (h:DataW.trod enc Tryz.prog W base sp held fuel 42 cs=some x):∃z:HR W,encHR z=cs/\∀u∈cs,u.oneCell'=true:=by
 obtain⟨xs,n,rfl,_,hl,hx,hf⟩:=DataW.trod_struct Tryz.underlying42 h;rw[show Tryz.prog.cellsOf 42=6 by kernel_rfl] at hl
 match cs,hl with
 | [c0,c1,c2,c3,c4,c5],_ =>
 have one0:Tryz.prog.cellsOf 38=1:=by kernel_rfl
 have one1:Tryz.prog.cellsOf 39=4:=by kernel_rfl
 have one2:Tryz.prog.cellsOf 40=1:=by kernel_rfl
 have hx':xs.length=3:=hx;have f0:DataW.trod enc Tryz.prog W base sp held n 38 (([c0,c1,c2,c3,c4,c5].drop 0).take (Tryz.prog.cellsOf 38))=xs[0]?:=hf 0 _ rfl;have f1:DataW.trod enc Tryz.prog W base sp held n 39 (([c0,c1,c2,c3,c4,c5].drop 1).take (Tryz.prog.cellsOf 39))=xs[1]?:=hf 1 _ rfl;have f2:DataW.trod enc Tryz.prog W base sp held n 40 (([c0,c1,c2,c3,c4,c5].drop 5).take (Tryz.prog.cellsOf 40))=xs[2]?:=hf 2 _ rfl;simp only[one0,one1,one2,List.drop_zero,List.drop_succ_cons,List.take_succ_cons,List.take_zero] at f0 f1 f2;rw[zN (by omega)] at f0 f1 f2
 obtain⟨v0,o,e0,r0⟩:=rd_of Tryz.underlying38 Tryz.underlying9 (by kernel_rfl) f0
 obtain⟨a,b,c,d,e1⟩:=addr_of f1;obtain⟨v2,l,e2,r2⟩:=grd_rows (ea:=encZR (w:=W)) Tryz.underlying40 (show Tryz.prog.cellsOf 54=2 by kernel_rfl) (fun n cs' y h=>zone_of h) f2
 cases e0;cases e1;cases e2;refine⟨⟨_,a,b,c,d,_,o,l,r0,r2⟩,rfl,fun u hu=>?_⟩
 obtain⟨o1,p1,rfl,_,_⟩:=r0.form;obtain⟨o2,p2,rfl,_,_⟩:=r2.form;simp only[List.mem_cons,List.not_mem_nil,or_false] at hu;rcases hu with rfl|rfl|rfl|rfl|rfl|rfl<;>rfl
def NetRd (v:Value) (hs:List (HR W)):Prop:=∃vh ro rl rc,∃rs:List Int,∃r1 r2:Int,v=.agg #[vh,.slice ro rl rc,.int .i64 r1,.int .i64 r2]/\GRd 6 vh (hs.map encHR) W/\GRd 1 (.slice ro rl rc) (rs.map fun z=>[.int .i64 z]) W
theorem net_of {fuel:Nat} {cs:List Value} {x:DataW H × List MemPlace} (h:DataW.trod enc Tryz.prog W base sp held fuel 25 cs=some x):∃hs:List (HR W),NetRd (.agg cs.toArray) hs:=by
 obtain⟨xs,n,rfl,_,hl,hx,hf⟩:=DataW.trod_struct Tryz.underlying25 h;rw[show Tryz.prog.cellsOf 25=4 by kernel_rfl] at hl
 match cs,hl with
 | [c0,c1,c2,c3],_ =>
 have one0:Tryz.prog.cellsOf 22=1:=by kernel_rfl
 have one1:Tryz.prog.cellsOf 23=1:=by kernel_rfl
 have one2:Tryz.prog.cellsOf 3=1:=by kernel_rfl
 have hx':xs.length=4:=hx;have f0:DataW.trod enc Tryz.prog W base sp held n 22 (([c0,c1,c2,c3].drop 0).take (Tryz.prog.cellsOf 22))=xs[0]?:=hf 0 _ rfl;have f1:DataW.trod enc Tryz.prog W base sp held n 23 (([c0,c1,c2,c3].drop 1).take (Tryz.prog.cellsOf 23))=xs[1]?:=hf 1 _ rfl;have f2:DataW.trod enc Tryz.prog W base sp held n 3 (([c0,c1,c2,c3].drop 2).take (Tryz.prog.cellsOf 3))=xs[2]?:=hf 2 _ rfl;have f3:DataW.trod enc Tryz.prog W base sp held n 3 (([c0,c1,c2,c3].drop 3).take (Tryz.prog.cellsOf 3))=xs[3]?:=hf 3 _ rfl;simp only[one0,one1,one2,List.drop_zero,List.drop_succ_cons,List.take_succ_cons,List.take_zero] at f0 f1 f2 f3;rw[zN (by omega)] at f0 f1 f2 f3
 obtain⟨v0,hs,e0,r0⟩:=grd_rows (ea:=encHR (w:=W)) Tryz.underlying22 (show Tryz.prog.cellsOf 42=6 by kernel_rfl) (fun n cs' y h=>host_of h) f0
 obtain⟨v1,rs,e1,r1⟩:=grd_rows (ea:=fun z:Int=>[Value.int .i64 z]) Tryz.underlying23 (show Tryz.prog.cellsOf 3=1 by kernel_rfl) (fun n cs' y h=>by
  obtain⟨z,e,_,_⟩:=DataW.trod_int Tryz.underlying3 h;exact⟨z,e.symm,fun u hu=>by rw[e] at hu;rw[List.mem_singleton] at hu;subst hu;rfl⟩) f1
 obtain⟨z2,e2,_,_⟩:=DataW.trod_int Tryz.underlying3 f2;obtain⟨z3,e3,_,_⟩:=DataW.trod_int Tryz.underlying3 f3;cases e0;cases e1;cases e2;cases e3;obtain⟨o1,p1,rfl,_,_⟩:=r1.form;exact⟨hs,_,_,_,_,rs,z2,z3,rfl,r0,r1⟩
end
theorem open_M {H:Type} {enc:TypeId × Value->H} {W:World} {base:Nat} {sp:Nat->Bool} {held:Bool} {r:Reach} {b0:Nat} {v:Value} {d:DataW H} {ps:List MemPlace} (hval:Value.okWide Tryz.prog W r b0 25 v) (hd:DataW.Trod enc Tryz.prog W base sp held 25 v d ps):∃hs:List (HR W),NetRd v hs:=by
 obtain⟨cs,rfl,_⟩:=okWide_struct Tryz.underlying25 hval;obtain⟨fuel,hf⟩:=hd;obtain⟨hs,h⟩:=net_of hf;exact⟨hs,by simpa[Value.cells] using h⟩
end
section
open Go.RowKit Go.Shelf Go.Sort
section
variable {w:World}
def ZOk (z:ZE w):Prop:=z.recs.length<=20/\∀r∈plE z.recs,r.type=2->r.names.length=1
theorem ze_of (z:ZR w) (h:GoodZ z):∃z':ZE w,encZ z'=encZR z/\ZOk z':=by
 obtain⟨L,h1,h2⟩:=good_els h;refine⟨⟨z.vo,z.vr,z.origin,L,z.ho,by rw[h1];exact z.hr,(Nm.good2_parts h.good).1,by omega⟩,rfl,h2,fun r hr ht=>?_⟩
 obtain⟨y,hy,rfl⟩:=List.mem_map.1 hr;have:y.1∈z.recs:=by rw[<-h1];exact List.mem_map.2 ⟨y,hy,rfl⟩
 exact h.ns _ this ht
theorem zes_of:∀(zs:List (ZR w)),(∀z∈zs,GoodZ z)->∃zs':List (ZE w),zs'.map encZ=zs.map encZR/\∀z∈zs',ZOk z
 | [],_=>⟨[],rfl,by simp⟩
 | z::zs,h=>by
  obtain⟨z',e1,e2⟩:=ze_of z (h z Zu);obtain⟨zs',f1,f2⟩:=zes_of zs (fun y hy=>h y (Zv _ hy))
  refine⟨z'::zs',by rw[List.map_cons,List.map_cons,e1,f1],fun y hy=>?_⟩
  rcases List.mem_cons.1 hy with rfl|hy
  ·exact e2
  ·exact f2 y hy
theorem hes_of:∀(hs:List (HR w)),(∀h∈hs,GoodH h)->∃hs':List (HE w),hs'.map encHo=hs.map encHR/\∀h∈hs',∀z∈h.zones,ZOk z
 | [],_=>⟨[],rfl,by simp⟩
 | x::hs,h=>by
  obtain⟨g1,g2⟩:=h x Zu;obtain⟨zs',e1,e2⟩:=zes_of x.zones g2;obtain⟨hs',f1,f2⟩:=hes_of hs (fun y hy=>h y (Zv _ hy))
  have hl:zs'.length<=4:=by have:=congrArg List.length e1;rw[Zf,Zf] at this;omega
  refine⟨⟨x.vn,x.a0,x.a1,x.a2,x.a3,x.vz,x.name,zs',x.hn,by rw[e1];exact x.hz,hl⟩::hs',?_,fun y hy=>?_⟩
  ·rw[List.map_cons,List.map_cons,f1];rfl
  ·rcases List.mem_cons.1 hy with rfl|hy
   ·exact e2
   ·exact f2 y hy
end
end
section
open Go.RowKit Go.Shelf Go.Sort
set_option maxHeartbeats 1000000 in
theorem zNew9_any {w:World} (oo:Option Addr) (on oc:Nat) (v:Value) (l:List (El w)) (hv:RecsRd v (l.map (·.1)) w) (hn:l.length<=1000) :
  Calls Tryz.prog 36 #[.slice oo on oc,v] w
   fun e w'=>∃v' l',e=.returned (.agg #[.slice oo on oc,v'])/\RecsRd v' ((l':List (El w)).map (·.1)) w'/\plE l'=Rc.canon (plE l)/\l'.length<=l.length/\Below w.heap.size w w'/\(∀g,v'.ownBlock=some g->w.heap.size<=g)/\∀x∈l',∀W,(∀y∈l,RecRd y.1.1 y.1.2 W)->RecRd x.1.1 x.1.2 W:=by
 have hb0:Below w.heap.size w (w.alloc (.cells #[.slice none 0 0,.slice none 0 0] 54)):=Zr;have HC:=Hd (canon_any v (l.map (El.up hb0)) (by rw[up_fst];exact hv.kept hb0) (by simpa using hn))
 have HP:=Hd (up_pl hb0 l);clear hv hn
 go_enter Tryz.func36,Tryz.ntmps36
 go_wp2_with fail
 refine HC.out.mono ?_;rintro e w1 ⟨v',l1,rfl,r1,p1,n1,b1,fr1,el1⟩;obtain⟨l',d1,d2,d3⟩:=down_list (w:=w) l1 (fun x hx=>el1 x hx w (fun y hy=>by
  obtain⟨z,_,rfl⟩:=List.mem_map.1 hy;exact z.2.1))
 obtain⟨o',c',rfl⟩:∃o c,v'=.slice o l1.length c:=by obtain⟨_,o,c,h,_⟩:=r1;exact⟨o,c,by rw[h,Zf]⟩
 have hk:∀c,w1.cell? ⟨w.heap.size,c,none⟩=(w.alloc (.cells #[.slice none 0 0,.slice none 0 0] 54)).cell? ⟨w.heap.size,c,none⟩:=fun c=>b1.cell (p:=⟨w.heap.size,c,none⟩) (by simp)
 have hz:∀c,w1.frozen? ⟨w.heap.size,c,none⟩=(w.alloc (.cells #[.slice none 0 0,.slice none 0 0] 54)).frozen? ⟨w.heap.size,c,none⟩:=fun c=>World.frozen?_of_block (b1.block w.heap.size (by simp))
 have k0:=hk 0;have k1:=hk 1;have z0:=hz 0;have z1:=hz 1;simp at k0 k1 z0 z1;have hb1:Below w.heap.size w w1:=hb0.trans (b1.mono (by simp))
 have hb2:∀u1 u2,Below w.heap.size w ((w1.setCell ⟨w.heap.size,0,none⟩ u1).setCell ⟨w.heap.size,1,none⟩ u2):=fun u1 u2=>(hb1.setCell (Zh _) _).setCell (Zh _) _
 have hr:∀u1 u2,RecsRd (.slice o' l1.length c') (l'.map (·.1)) ((w1.setCell ⟨w.heap.size,0,none⟩ u1).setCell ⟨w.heap.size,1,none⟩ u2):=fun u1 u2=>by
  obtain⟨_,o2,c2,e1,e2,e3,e4,e5⟩:=r1;rw[Zf] at e1 e2;cases e1;refine⟨fun x hx=>?_,o',c',by rw[d1,Zf],by rw[d1,Zf];exact e2,e3,e4,fun j hj=>?_⟩
  ·obtain⟨y,_,rfl⟩:=List.mem_map.1 hx
   exact y.2.1.below (hb2 u1 u2)
  ·simp only[d1] at hj ⊢
   obtain⟨a,ha,hcell⟩:=e5 j hj;refine⟨a,ha,?_⟩;have hbl:=fr1 a.block (by rw[ha];rfl)
   have hne:(a.add j).block≠w.heap.size:=by
    have:(a.add j).block=a.block:=by unfold Addr.add;split<;>rfl
    rw[this];simp at hbl;omega
   rw[World.cell?_of_block (Below.heap_setCell _ _ _ _ hne),World.cell?_of_block (Below.heap_setCell _ _ _ _ hne)];exact hcell
 have q1:∀u1 u2,((w1.setCell ⟨w.heap.size,0,none⟩ u1).setCell ⟨w.heap.size,1,none⟩ u2).cell? ⟨w.heap.size,1,none⟩=some u2:=fun u1 u2=>World.cell?_setCell_same _ _ _ (by rw[World.cell?_setCell_other _ _ _ _ (by simp)];exact k1)
 have q0:∀u1 u2,((w1.setCell ⟨w.heap.size,0,none⟩ u1).setCell ⟨w.heap.size,1,none⟩ u2).cell? ⟨w.heap.size,0,none⟩=some u1:=fun u1 u2=>by rw[World.cell?_setCell_other _ _ _ _ (by simp)];exact World.cell?_setCell_same _ _ _ k0
 have Q:=Hd (And.intro q0 q1);have HH:=Hd (And.intro hr hb2);have HX:Hid ((∀g,(Value.slice o' l1.length c').ownBlock=some g->w.heap.size<=g)/\∀x∈l',∀W,(∀y∈l,RecRd y.1.1 y.1.2 W)->RecRd x.1.1 x.1.2 W):=⟨fun g hg=>Nat.le_of_lt (by have:=fr1 g hg;simp at this;omega),fun x hx W hW=>by
  have h1:x.1∈l1.map (·.1):=by rw[<-d1];exact List.mem_map.2 ⟨x,hx,rfl⟩
  obtain⟨y,hy,e⟩:=List.mem_map.1 h1;have h2:=el1 y hy W (fun z hz=>by
   obtain⟨u,hu,rfl⟩:=List.mem_map.1 hz;exact hW u hu)
  rw[show y.1=x.1 from e] at h2
  exact h2⟩
 have HQ:Hid (plE l'=Rc.canon (plE l)/\l'.length<=l.length):=⟨by rw[d2,p1,HP.out],by rw[d3];simpa using n1⟩
 clear r1 p1 n1 b1 hk hz fr1 el1 hr hb2 d1 d2 d3 q0 q1;go_wp2_with fail
 have q0:=Q.out.1;have q1:=Q.out.2;refine bodyPost_ret (by simp[results,Tryz.results36,go_sem,q0,q1];try rfl) rfl ?_
 exact⟨_,l',rfl,HH.out.1 _ _,HQ.out.1,HQ.out.2,HH.out.2 _ _,HX.out.1,HX.out.2⟩
theorem recs_lie {w W1 W:World} {n:Nat} {v:Value} {l:List (El w)} (h:RecsRd v (l.map (·.1)) W1) (ho:∀g,v.ownBlock=some g->n<=g) (hk:∀p:Addr,n<=p.block->∀u,W1.cell? p=some u->W.cell? p=some u) (hel:∀x∈l,RecRd x.1.1 x.1.2 W):RecsRd v (l.map (·.1)) W:=by
 obtain⟨_,o2,c2,e1,e2,e3,e4,e5⟩:=h;subst e1;refine⟨fun x hx=>?_,o2,c2,rfl,e2,e3,e4,fun j hj=>?_⟩
 ·obtain⟨y,hy,rfl⟩:=List.mem_map.1 hx
  exact hel y hy
 ·obtain⟨a,ha,hc⟩:=e5 j hj
  refine⟨a,ha,hk _ ?_ _ hc⟩;have hb:(a.add j).block=a.block:=by unfold Addr.add;split<;>rfl
  rw[hb];exact ho a.block (by rw[ha];rfl)
end
end Go.Proofs.YtgmbefolgppmdaaGreat
