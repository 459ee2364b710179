/- A Net as the document's, in memory. -/
import Derived.Test.YtgmbefolgppmdaaGreatKSgC
import Derived.Test.YtgmbefolgppmdaaGreatKEhA
import Derived.Test.YtgmbefolgppmdaaGreatKEgX
import Derived.Test.YtgmbefolgppmdaaGreatKReg
import Derived.Test.YtgmbefolgppmdaaGreatKAli
namespace Go.Proofs.YtgmbefolgppmdaaGreat
open Go.RowKit Go.Shelf Go.Sort
set_option maxRecDepth 100000
attribute [local go_sem] Oper.semAt_some
def OfAllT {w:World} (l:List (El w)) (w0:World) (e:Ending) (w':World):Prop:=∃(v':Value) (ys:List RP),e=.returned v'/\Row (fun g=>w0.heap.size<=g) 119 7 v' ys.length (ys.map (·.1)).flatten w'/\plD ys=plE l/\(∀y∈ys,OfR7 w y.1 y.2 w')/\Below w0.heap.size w0 w'
set_option maxHeartbeats 4000000 in
theorem ofAllT_any {w w0:World} (v:Value) (l:List (El w)) (hb0:Below w.heap.size w w0) (hv:RecsRd v (l.map (·.1)) w0) (na:l.length<=1000) :
  Calls Tryz.prog 19 #[v] w0 (OfAllT l w0):=by
 obtain⟨ov,cv,rfl⟩:∃o cap,v=.slice o l.length cap:=by obtain⟨_,o,cap,h,_⟩:=hv;exact⟨o,cap,by rw[h,Zf]⟩
 have HV:=Hd hv.el;have HB0:=Hd hb0;have lz:(l.length:Int)<=1000:=by omega
 clear hv hb0;refine (zF (n:=0)).1 ?_;refine callsIn_of_wp Tryz.func19 rfl trivial ?_ rfl;simp only[Tryz.ntmps19,Zo,Ze,Zg,Nat.reduceAdd,Nat.reduceSub,Zi,Zj,Zk,Zl,Zm,Zp];gi_wp2_with fail
 gi_loopw [3,4] (fun vx vi W=>∃(i:Nat) (ys:List RP),i<=l.length/\vi=.int .i64 i/\Hid (ys.length=i/\plD ys=plE (l.take i)/\∀y∈ys,OfR7 w y.1 y.2 W)/\Below w0.heap.size w0 W/\Row (fun g=>w0.heap.size<=g) 119 7 vx ys.length (ys.map (·.1)).flatten W) (fun _ vi _=>l.length-(intOf vi).toNat)
 case atStart=>exact⟨0,[],Nat.zero_le _,rfl,⟨rfl,rfl,by simp⟩,Below.refl _ _,Row.nil _ _ _ _⟩
 case round =>
  obtain⟨i,ys,hi,rfl,HI,hb,hrow⟩:=hrel;by_cases hlt:i<l.length
  ·have hlz:(i:Int)<(l.length:Int):=by omega
   obtain⟨x,hx⟩:=Zq (l[i]);obtain⟨p0,n0,q0,p1,n1,q1,p2,n2,q2,p3,n3,q3,p4,n4,q4,ex⟩:=x.cells;obtain⟨ga,rfl,e0,e1,e2,e3,e4,e5,e6⟩:=HV.out _ hb i hlt _ _ _ _ _ _ _ (by rw[hx];exact ex)
   obtain⟨ea,hea⟩:=Zq (ga.add (i*7));rw[hea] at e0 e1 e2 e3 e4 e5 e6;have htk:l.take (i+1)=l.take i++[x]:=by rw[Zx hlt,hx]
   have hxr:RecRd [.slice p0 n0 q0,.int .u32 (x.1.2.ttl:Int),.int .i64 x.1.2.type,.slice p1 n1 q1,.slice p2 n2 q2,.slice p3 n3 q3,.slice p4 n4 q4] x.1.2 w:=by have h:=x.2.1;rw[show x.1.1=_ from ex] at h;exact h
   have HOF:=Hd (of5T_any _ x.1.2 w wr hxr (Z5 HB0.out hb) x.2.2.names.1);have HTK:=Hd htk;have HB:=Hd hb;have HR:=Hd hrow;clear hx ex htk hxr hb hrow;gi_wp2_with fail
   (with_reducible refine (callsIn_wide.2 HOF.out).mono ?_)
   rintro e w4 ⟨cs,rfl,hof,b4⟩;have hbw:=Z5 HB0.out (Z5 HB.out b4);obtain⟨d0,k0,t0,d1,k1,t1,d2,k2,t2,d3,k3,t3,d4,k4,t4,e7,_⟩:=(hof.rec hbw).cells;subst e7;have HB4:=Hd (Z5 HB.out b4);have HR4:=Hd (HR.out.below b4);have HI4:Hid (∀y∈ys,OfR7 w y.1 y.2 w4):=fun y hy=>(HI.out.2.2 y hy).below b4
   have HOD:=Hd hof;have HG4:=Hd (GRd.new [.slice d0 k0 t0,.int .u32 (x.1.2.ttl:Int),.int .i64 x.1.2.type,.slice d1 k1 t1,.slice d2 k2 t2,.slice d3 k3 t3,.slice d4 k4 t4] rfl (by simp[Value.oneCell']) w4 119)
   have HR5:=Hd (HR4.out.alloc (.cells #[.slice d0 k0 t0,.int .u32 (x.1.2.ttl:Int),.int .i64 x.1.2.type,.slice d1 k1 t1,.slice d2 k2 t2,.slice d3 k3 t3,.slice d4 k4 t4] 119));have HBA:Hid (Below w4.heap.size w4 (w4.alloc (.cells #[.slice d0 k0 t0,.int .u32 (x.1.2.ttl:Int),.int .i64 x.1.2.type,.slice d1 k1 t1,.slice d2 k2 t2,.slice d3 k3 t3,.slice d4 k4 t4] 119))):=Zr;have HRZ:Hid (w0.heap.size<=w4.heap.size+1):=by have:=HB4.out.size;show _<=_;omega
   have HYN:Hid (ys.length+1<=100000):=by have:=HI.out.1;show _<=_;omega
   clear e0 e1 e2 e3 e4 e5 e6 hof b4 HOF hea hbw;gi_wp2_with (gi_at_builtin;refine Z7 (fun g=>w0.heap.size<=g) 119 _ 7 136 info_rrec rfl (by decide) rfl _ _ _ Tryz.underlying63 rfl _ ys.length (ys.map (·.1)) (by rfl) HR5.out _ [[.slice d0 k0 t0,.int .u32 (x.1.2.ttl:Int),.int .i64 x.1.2.type,.slice d1 k1 t1,.slice d2 k2 t2,.slice d3 k3 t3,.slice d4 k4 t4]] (by rfl) HG4.out HYN.out (by omega) (by rw[World.size_alloc];exact HRZ.out) ?_;intro v10 w10 hrow10 hgr10;have HR10:=Hd hrow10;have HGR10:=Hd hgr10;clear hrow10 hgr10)
   gi_wp2_with fail
   have hgt:∀g,Value.ownBlock u3=some g->∃c t f,(w4.alloc (.cells #[.slice d0 k0 t0,.int .u32 (x.1.2.ttl:Int),.int .i64 x.1.2.type,.slice d1 k1 t1,.slice d2 k2 t2,.slice d3 k3 t3,.slice d4 k4 t4] 119)).heap[g]? = some (.cells c t f)/\t≠37:=fun g hg=>by
    obtain⟨c,f,h⟩:=HR5.out.typ hg;exact⟨c,_,f,h,by decide⟩
   refine⟨⟨i+1,ys++[([.slice d0 k0 t0,.int .u32 (x.1.2.ttl:Int),.int .i64 x.1.2.type,.slice d1 k1 t1,.slice d2 k2 t2,.slice d3 k3 t3,.slice d4 k4 t4],x.1.2)],hlt,by go_num,⟨by simp[HI.out.1],?_,fun y hy=>?_⟩,?_,?_⟩,by simp[intOf];omega⟩
   ·rw[HTK.out,plE_snoc,<-HI.out.2.1]
    simp[plD]
   ·rw[List.mem_append,List.mem_singleton] at hy
    rcases hy with hy|rfl
    ·exact ((HI4.out y hy).below HBA.out).grown HGR10.out hgt
    ·exact (HOD.out.below HBA.out).grown HGR10.out hgt
   ·exact (Z5 HB4.out HBA.out).grown HGR10.out (Z5 HB4.out HBA.out).size (fun g hg=>HR5.out.2 g hg)
   ·have:=HR10.out
    rw[Zb,List.map_append];exact this
  ·have hlz:¬((i:Int)<(l.length:Int)):=by omega
   obtain rfl:i=l.length:=by omega
   have HB:=Hd hb;have HR:=Hd hrow;clear hb hrow;gi_wp2_with fail
   go_ret
   have hbw:=Z5 HB0.out HB.out;obtain⟨h1,h2,h3⟩:=HI.out;rw[List.take_length] at h2;exact⟨_,ys,rfl,HR.out,h2,h3,HB.out⟩
theorem OfR7.keepT {w:World} {T:TypeId->Prop} {cs:List Value} {r:Rc.PRec} {A B:World} (h:OfR7 w cs r A) (ht:¬T 37) (hk:keepT T A B):OfR7 w cs r B:=by
 obtain⟨vo,ds,h1,h2,us,ox,cx,vm,vt,vr,e,h3,h4⟩:=h;refine⟨vo,ds,h1,h2,us,ox,cx,vm,vt,vr,e,h3.kept fun g c t f hv hg=>?_,h4⟩
 obtain⟨c1,f1,h5⟩:=h3.typ hv;rw[hg] at h5;cases h5;exact hk _ _ _ _ hg ht
def Stable {α:Type} (T:TypeId->Prop) (P:α->List Value->World->Prop):Prop:=∀a cs A B,P a cs A->keepT T A B->P a cs B
structure BdG {α:Type} (P:α->List Value->World->Prop) (tS:TypeId) (k B:Nat) (ss:List α) (css:List (List Value)) (v:Value) (W:World):Prop where
 row:Row (fun g=>B<=g) tS k v css.length css.flatten W
 len:css.length=ss.length
 el:∀i (h:i<css.length) (h':i<ss.length),P ss[i] css[i] W
section
variable {α:Type} {T:TypeId->Prop} {P:α->List Value->World->Prop}
theorem BdG.nil {tS:TypeId} {k B:Nat} {W:World}:BdG P tS k B [] [] (.slice none 0 0) W:=⟨Row.nil _ _ _ _,rfl,fun i h=>by simp at h⟩
theorem BdG.below (hS:Stable T P) {tS:TypeId} {k B:Nat} {ss:List α} {css:List (List Value)} {v:Value} {A W:World} (h:BdG P tS k B ss css v A) (hb:Below A.heap.size A W):BdG P tS k B ss css v W :=
 ⟨h.row.below hb,h.len,fun i hi hi'=>hS _ _ _ _ (h.el i hi hi') (keepT.below hb)⟩
theorem BdG.setB (hS:Stable T P) {tS:TypeId} {k B b o:Nat} {ss:List α} {css:List (List Value)} {v u:Value} {W:World} (h:BdG P tS k B ss css v W) {cs:Array Value} {t:TypeId} (hk:Blk b cs t W) (hb:b<B) (ht:T t):BdG P tS k B ss css v (W.setCell ⟨b,o,none⟩ u) :=
 ⟨Row.setOther h.row (by omega) _,h.len,fun i hi hi'=>hS _ _ _ _ (h.el i hi hi') (keepT.set _ ⟨_,_,_,hk,ht⟩)⟩
theorem BdG.push (hS:Stable T P) {tS:TypeId} (hT:T tS) {k B:Nat} {ss:List α} {css:List (List Value)} {v v10:Value} {A w10:World} (h:BdG P tS k B ss css v A) {s:α} {cs:List Value} (hs:P s cs A)
  (hrow:Row (fun g=>B<=g) tS k v10 (css.length+1) (css++[cs]).flatten w10) (hgr:A.grownBy w10 v.ownBlock):BdG P tS k B (ss++[s]) (css++[cs]) v10 w10:=by
 have hk:keepT T A w10:=keepT.grown hgr (fun g hg=>by
  obtain⟨c,f,h'⟩:=h.row.typ hg;exact⟨c,_,f,h',hT⟩)
 refine⟨by rw[Zb];exact hrow,by simp[h.len],fun i hi hi'=>?_⟩
 by_cases hlt:i<css.length
 ·rw[Zt hlt,Zt (by have:=h.len;omega)]
  exact hS _ _ _ _ (h.el i hlt _) hk
 ·have e:i=css.length:=by simp at hi;omega
  subst e;rw[Zs (Zh _),Zs (by have:=h.len;omega)]
  have hl:=h.len;simp only[hl,Nat.sub_self,List.getElem_singleton];exact hS _ _ _ _ hs hk
end
theorem Row.ty {R:Nat->Prop} {e:TypeId} {k n:Nat} {v:Value} {xs:List Value} {W:World} (h:Row R e k v n xs W):Ty v e W:=fun o n c e' a ha=>by
 subst e';subst ha;exact h.typ rfl
section
variable {w:World}
def ZfC (z:ZE w) (cs:List Value) (W:World):Prop :=
 ∃(v:Value) (ys:List RP),cs=[z.vo,v]/\GRd 7 v (ys.map (·.1)) W/\Ty v 119 W/\plD ys=plE z.recs/\∀y∈ys,OfR7 w y.1 y.2 W
theorem ZfC.stable {T:TypeId->Prop} (h1:¬T 119) (h2:¬T 37):Stable T (ZfC (w:=w)):=fun z cs A B h hk=>by
 obtain⟨v,ys,e,a1,a2,a3,a4⟩:=h;exact⟨v,ys,e,a1.keepTy a2 h1 hk,a2.keep h1 hk,a3,fun y hy=>(a4 y hy).keepT h2 hk⟩
theorem ZfC.one {z:ZE w} {cs:List Value} {W:World} (h:ZfC z cs W):cs.length=2/\∀u∈cs,u.oneCell'=true:=by
 obtain⟨v,ys,rfl,a1,_⟩:=h;obtain⟨o,c,rfl,_⟩:=a1.form;obtain⟨p,q,hv,_⟩:=z.ho.form;rw[hv];exact⟨rfl,by simp[Value.oneCell']⟩
def HfC (h:HE w) (cs:List Value) (W:World):Prop :=
 ∃(vz:Value) (czs:List (List Value)),cs=[h.vn,.int .u8 h.a0,.int .u8 h.a1,.int .u8 h.a2,.int .u8 h.a3,vz]/\GRd 2 vz czs W/\Ty vz 66 W/\czs.length=h.zones.length/\∀i (h1:i<czs.length) (h2:i<h.zones.length),ZfC h.zones[i] czs[i] W
theorem HfC.stable {T:TypeId->Prop} (h1:¬T 119) (h2:¬T 37) (h3:¬T 66):Stable T (HfC (w:=w)):=fun z cs A B h hk=>by
 obtain⟨v,czs,e,a1,a2,a3,a4⟩:=h;exact⟨v,czs,e,a1.keepTy a2 h3 hk,a2.keep h3 hk,a3,fun i h4 h5=>ZfC.stable h1 h2 _ _ _ _ (a4 i h4 h5) hk⟩
theorem HfC.one {h:HE w} {cs:List Value} {W:World} (hf:HfC h cs W):cs.length=6/\∀u∈cs,u.oneCell'=true:=by
 obtain⟨v,ys,rfl,a1,_⟩:=hf;obtain⟨o,c,rfl,_⟩:=a1.form;obtain⟨p,q,hv,_⟩:=h.hn.form;rw[hv];exact⟨rfl,by simp[Value.oneCell']⟩
theorem hf_done {B:Nat} {h:HE w} {czs:List (List Value)} {vz:Value} {W:World} (hb:BdG ZfC 66 2 B h.zones czs vz W):HfC h [h.vn,.int .u8 h.a0,.int .u8 h.a1,.int .u8 h.a2,.int .u8 h.a3,vz] W :=
 ⟨vz,czs,rfl,Row.grd hb.row (fun c hc=>by
  obtain⟨i,hi,rfl⟩:=List.mem_iff_getElem.1 hc;exact (hb.el i hi (by have:=hb.len;omega)).one),hb.row.ty,hb.len,hb.el⟩
theorem zf_ze {z:ZE w} {cs:List Value} {W:World} (h:ZfC z cs W) (hb:Below w.heap.size w W):∃z':ZE W,encZ z'=cs/\z'.origin=z.origin/\plE z'.recs=plE z.recs:=by
 obtain⟨v,ys,rfl,a1,_,a3,a4⟩:=h;have hr7:∀x∈ys,RecRd x.1 x.2 W:=fun x hx=>(a4 x hx).rec hb
 have hrb:∀x∈ys,RB x.2:=fun x hx=>by
  have:x.2∈plE z.recs:=by rw[<-a3];exact List.mem_map.2 ⟨x,hx,rfl⟩
  obtain⟨q,_,e⟩:=List.mem_map.1 this;rw[<-e];exact q.2.2
 obtain⟨L,hL⟩:=els (W:=W) (l:=ys) (fun x hx=>⟨hr7 x hx,hrb x hx⟩)
 have hp:plE L=plE z.recs:=by
  rw[<-a3];have:plE L=plD (L.map (·.1)):=by simp[plE,plD]
  rw[this,hL]
 refine⟨⟨z.vo,v,z.origin,L,z.ho.below hb,by rw[hL];exact recsRd_of a1 hr7,z.nb,?_⟩,rfl,rfl,hp⟩
 have:=congrArg List.length hp
 rw[zH,zH] at this;rw[this];exact z.len
theorem zf_list {W:World} (hb:Below w.heap.size w W):∀(zs:List (ZE w)) (czs:List (List Value)),czs.length=zs.length->(∀i (h1:i<czs.length) (h2:i<zs.length),ZfC zs[i] czs[i] W) ->
  ∃zs':List (ZE W),zs'.map encZ=czs/\zs'.map (fun z=>(z.origin,plE z.recs))=zs.map (fun z=>(z.origin,plE z.recs))
 | [],[],_,_=>⟨[],rfl,rfl⟩
 | z::zs,c::czs,hl,h=>by
  obtain⟨z',e1,e2,e3⟩:=zf_ze (h 0 (by simp) (by simp)) hb
  obtain⟨zs',f1,f2⟩:=zf_list hb zs czs (by simpa using hl) (fun i h1 h2=>h (i+1) (by simpa using h1) (by simpa using h2))
  refine⟨z'::zs',?_,?_⟩
  ·rw[List.map_cons,f1,e1];rfl
  ·rw[List.map_cons,List.map_cons,f2,e2,e3];rfl
 | [],_::_,hl,_=>by simp at hl
 | _::_,[],hl,_=>by simp at hl
def SameZ {w1 w2:World} (a:List (HE w1)) (b:List (HE w2)):Prop:=a.map (fun h=>h.zones.map fun z=>(z.origin,plE z.recs))=b.map (fun h=>h.zones.map fun z=>(z.origin,plE z.recs))
theorem hf_list {W:World} (hb:Below w.heap.size w W):∀(hs:List (HE w)) (css:List (List Value)),css.length=hs.length->(∀i (h1:i<css.length) (h2:i<hs.length),HfC hs[i] css[i] W) ->
  ∃hs':List (HE W),hs'.map encHo=css/\SameZ hs' hs
 | [],[],_,_=>⟨[],rfl,rfl⟩
 | x::hs,c::css,hl,h=>by
  obtain⟨vz,czs,e1,a1,_,a3,a4⟩:=h 0 (by simp) (by simp)
  obtain⟨zs',f1,f2⟩:=zf_list hb x.zones czs a3 a4;obtain⟨hs',g1,g2⟩:=hf_list hb hs css (by simpa using hl) (fun i h1 h2=>h (i+1) (by simpa using h1) (by simpa using h2))
  have hlen:zs'.length=x.zones.length:=by have:=congrArg List.length f2;simpa using this
  refine⟨⟨x.vn,x.a0,x.a1,x.a2,x.a3,vz,x.name,zs',x.hn.below hb,by rw[f1];exact a1,by rw[hlen];exact x.len⟩::hs',?_,?_⟩
  ·rw[List.map_cons,g1]
   show _::_=_;congr 1
   exact e1.symm
  ·show _=_
   rw[List.map_cons,List.map_cons];congr 1
 | [],_::_,hl,_=>by simp at hl
 | _::_,[],hl,_=>by simp at hl
theorem sameZ_pz {w1 w2:World}:∀{a:List (HE w1)} {b:List (HE w2)} (i:Nat),SameZ a b->(Eg.zsF a i).map Eg.pz=(Eg.zsF b i).map Eg.pz
 | [],[],i,_=>rfl
 | x::a,y::b,i,h=>by
  unfold SameZ at h;rw[List.map_cons,List.map_cons,List.cons.injEq] at h;have ih:=sameZ_pz (i+1) (a:=a) (b:=b) h.2;show (x.zones.map (fun z=>(i,z))++Eg.zsF a (i+1)).map Eg.pz=(y.zones.map (fun z=>(i,z))++Eg.zsF b (i+1)).map Eg.pz
  rw[List.map_append,List.map_append,ih,List.map_map,List.map_map];congr 1
  have:=congrArg (List.map fun p:List (List UInt8) × List Rc.PRec=>(i,p.1,p.2)) h.1
  rw[List.map_map,List.map_map] at this;exact this
 | [],_::_,i,h=>by simp[SameZ] at h
 | _::_,[],i,h=>by simp[SameZ] at h
def Of12R (z:ZE w) (w0:World) (e:Ending) (w':World):Prop:=∃cs:List Value,e=.returned (.agg cs.toArray)/\ZfC z cs w'/\Below w0.heap.size w0 w'
set_option maxHeartbeats 1000000 in
theorem of12_any {w0:World} (hb0:Below w.heap.size w w0) (z:ZE w):Calls Tryz.prog 32 #[.agg (encZ z).toArray] w0 (Of12R z w0):=by
 obtain⟨oo,co,hzo,_,_⟩:=z.ho.form;obtain⟨or,cr,hzr⟩:∃o cap,z.vr=.slice o z.recs.length cap:=by obtain⟨_,o,cap,h,_⟩:=z.hr;exact⟨o,cap,by rw[h,Zf]⟩
 have hze:encZ z=[.slice oo z.origin.length co,.slice or z.recs.length cr]:=by unfold encZ;rw[hzo,hzr]
 obtain⟨W1,hW1⟩:=Zq (w0.alloc (.cells #[.slice oo z.origin.length co,.slice or z.recs.length cr] 54));have hb1:Below w0.heap.size w0 W1:=by rw[<-hW1];exact Zr
 have k0:Blk w0.heap.size #[.slice oo z.origin.length co,.slice or z.recs.length cr] 54 W1:=by rw[<-hW1];exact Blk.new w0 _ _
 have hrr:=z.hr;rw[hzr] at hrr;have HOA:Hid (∀W',Below w0.heap.size w0 W'->Calls Tryz.prog 19 #[.slice or z.recs.length cr] W' (OfAllT z.recs W')):=fun W' hW=>ofAllT_any (.slice or z.recs.length cr) z.recs (Z5 hb0 hW) (hrr.kept (Z5 hb0 hW)) (by have:=z.len;omega)
 have HB1:=Hd hb1;have HBW:=Hd hb0;have HK0:=Hd k0;have HZO:=Hd hzo;have c0:W1.cell? ⟨w0.heap.size,0,none⟩=some _:=k0.cell 0;have c1:W1.cell? ⟨w0.heap.size,1,none⟩=some _:=k0.cell 1;rw[hze];clear hze hzo hzr hrr hb1 k0 hb0;obtain⟨zn,hzn⟩:=Zq z.origin.length;obtain⟨zl,hzl⟩:=Zq z.recs.length;rw[hzl] at HOA;rw[hzn,hzl] at HK0 c0 c1 hW1 ⊢;rw[hzn] at HZO;obtain⟨W2,hW2⟩:=Zq (W1.alloc (.cells #[.slice none 0 0,.slice none 0 0] 66));have s1:W1.heap.size=w0.heap.size+1:=by rw[<-hW1];simp
 have hb2:Below W1.heap.size W1 W2:=by rw[<-hW2];exact Zr
 have k1:Blk (w0.heap.size+1) #[.slice none 0 0,.slice none 0 0] 66 W2:=by
  have:=Blk.new W1 #[.slice none 0 0,.slice none 0 0] 66
  rwa [hW2,s1] at this
 have HB2:=Hd (Z5 HB1.out hb2);have HK1:=Hd k1;have HCS:Hid (∀W',Below W2.heap.size W2 W'->Cs [(⟨w0.heap.size,0,none⟩,.slice oo zn co),(⟨w0.heap.size,1,none⟩,.slice or zl cr)] W'):=fun W' hW=>⟨((HK0.out.below hb2).below hW).cell 0,((HK0.out.below hb2).below hW).cell 1,trivial⟩
 clear c0 c1 k1 hb2 hzn hzl;refine (zF (n:=0)).1 ?_;refine callsIn_of_wp Tryz.func32 rfl trivial ?_ rfl;simp only[Tryz.ntmps32,Zo,Ze,Zg,Nat.reduceAdd,Nat.reduceSub,Zi,Zj,Zk,Zl,Zm,Zp];gi_wp2
 clear hW1 hW2;refine Z8 [1,3,4,5] (Cs [(⟨w0.heap.size,0,none⟩,.slice oo zn co),(⟨w0.heap.size,1,none⟩,.slice or zl cr)]) 7 rfl (by kernel_rfl) ?_
 intro wa hwa;have HBA:Hid (Below W2.heap.size W2 wa):=by subst hwa;exact (Below.refl _ _).drew
 have hS:=HCS.out wa HBA.out;clear hwa;refine tB 0 ?_;refine tB 2 ?_;refine tA 1 hS ?_;refine tA 3 hS ?_;refine oneH 4 (by rfl) (by kernel_rfl) (fun K hK=>?_)
 gi_wp2_with fail
 refine (callsIn_wide.2 (HOA.out wa (Z5 HB2.out HBA.out))).mono ?_;rintro e9 wb ⟨v,ys,rfl,hrow,hpl,hof,b9⟩;obtain⟨ov,cv,rfl⟩:∃o c,v=.slice o ys.length c:=by obtain⟨o,c,e⟩:=hrow.form;exact⟨o,c,e⟩
 have HBB:=Hd (Z5 HBA.out b9);have HROW:=Hd hrow;have HPL:=Hd hpl;have HOF:=Hd hof;clear b9 hrow hpl hof;obtain⟨yl,hyl⟩:=Zq ys.length;have HYL:=Hd hyl;rw[hyl];clear hyl;gi_wp2_with fail
 refine hK _ _ (fun _=>HCS.out wb HBB.out) ?_
 clear hK K;replace hS:=HCS.out wb HBB.out;refine tA 5 hS ?_;have ka:=HK1.out.below HBB.out;have u0:wb.cell? ⟨w0.heap.size+1,0,none⟩=some _:=ka.cell 0;have u1:wb.cell? ⟨w0.heap.size+1,1,none⟩=some _:=ka.cell 1;have z0:=ka.frozen 0;have z1:=ka.frozen 1;have HKA:=Hd ka;refine oneH 6 (by rfl) (by kernel_rfl) (fun K hK=>?_)
 gi_wp2
 refine hK _ _ (fun h=>absurd h (by decide)) ?_
 clear hK K hS;refine Z9 (by kernel_rfl) ?_
 clear u0 u1 z0 z1 ka;gi_wp2
 have kb:=(HKA.out.setAt 0 (.slice oo zn co)).setAt 1 (.slice ov yl cv);have e0:=kb.cell 0;have e1:=kb.cell 1;refine bodyPost_ret (v:=.agg #[.slice oo zn co,.slice ov yl cv]) (by simp at e0 e1;simp[results,Tryz.results32,go_sem,e0,e1]) rfl ?_
 have HZF:ZfC z [.slice oo zn co,.slice ov yl cv] wb:=by
  refine⟨.slice ov yl cv,ys,by rw[HZO.out],?_,?_,HPL.out,HOF.out⟩
  ·rw[<-HYL.out]
   have hbw:∀x∈ys,RecRd x.1 x.2 wb:=fun x hx=>(HOF.out x hx).rec (Z5 HBW.out (Z5 HB2.out HBB.out))
   refine Row.grd (by rw[Zf];exact HROW.out) (fun c hc=>?_)
   obtain⟨x,hx,rfl⟩:=List.mem_map.1 hc;exact⟨(hbw x hx).len,(hbw x hx).one⟩
  ·rw[<-HYL.out];exact HROW.out.ty
 have hs1:Stable (fun t=>t=66) (ZfC (w:=w)):=ZfC.stable (by decide) (by decide)
 refine⟨_,rfl,?_,?_⟩
 ·exact hs1 _ _ _ _ (hs1 _ _ _ _ HZF (keepT.set _ ⟨_,_,_,HKA.out,rfl⟩)) (keepT.set _ ⟨_,_,_,HKA.out.setAt 0 _,rfl⟩)
 ·exact ((Z5 HB2.out HBB.out).setCell (p:=⟨w0.heap.size+1,0,none⟩) (by simp) _).setCell (p:=⟨w0.heap.size+1,1,none⟩) (by simp) _
end
end Go.Proofs.YtgmbefolgppmdaaGreat
