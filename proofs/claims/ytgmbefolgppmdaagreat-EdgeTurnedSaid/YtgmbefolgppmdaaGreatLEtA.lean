/- EdgeTurned, plainly: flaws when zones are turned. -/
import Derived.Test.YtgmbefolgppmdaaGreatLEgL
import Derived.Test.YtgmbefolgppmdaaGreatLEgY
import Derived.Test.YtgmbefolgppmdaaGreatLAli
import Derived.Test.YtgmbefolgppmdaaGreatLGdB
import Derived.ArgAppend
import Derived.Test.YtgmbefolgppmdaaGreatLEgS
import Derived.Test.YtgmbefolgppmdaaGreatLGdE
namespace Go.Proofs.YtgmbefolgppmdaaGreat
set_option maxRecDepth 100000
section
open Go.RowKit Go.Shelf Go.Sort
namespace Eg
def zl:List (List (Zn.Nam × List Rc.PRec))->Nat->List PZ
 | [],_=>[]
 | x::l,i=>x.map (fun z=>(i,z))++zl l (i+1)
theorem zs_zl {w:World}:∀(hs:List (HE w)) (i:Nat),(zsF hs i).map pz=zl (hs.map fun h=>h.zones.map fun z=>(z.origin,plE z.recs)) i
 | [],i=>rfl
 | h::hs,i=>by
  show (h.zones.map (fun z=>(i,z))++zsF hs (i+1)).map pz=_
  rw[List.map_append,zs_zl hs (i+1),List.map_map];show _=(h.zones.map fun z=>(z.origin,plE z.recs)).map (fun z=>(i,z))++_
  rw[List.map_map];rfl
def Alk {α:Type}:List (List α)->List (List α)->Prop
 | [],[]=>True
 | x::a,y::b=>(∀p,p∈x ↔ p∈y)/\Alk a b
 | _,_=>False
theorem zl_mem:∀{a b:List (List (Zn.Nam × List Rc.PRec))},Alk a b->∀(i:Nat) (p:PZ),p∈zl a i ↔ p∈zl b i
 | [],[],_,_,_=>Iff.rfl
 | x::a,y::b,h,i,p=>by
  have ih:=zl_mem h.2 (i+1) p;simp only[zl,List.mem_append,List.mem_map,ih,h.1]
 | [],_::_,h,_,_=>h.elim
 | _::_,[],h,_,_=>h.elim
theorem any_mem {α:Type} {a b:List α} (h:∀p,p∈a ↔ p∈b) (q:α->Bool):a.any q=b.any q:=by
 rw[Bool.eq_iff_iff,List.any_eq_true,List.any_eq_true];constructor
 ·rintro⟨x,hx,k⟩;exact⟨x,(h x).1 hx,k⟩
 ·rintro⟨x,hx,k⟩;exact⟨x,(h x).2 hx,k⟩
theorem ofP_mem {a b:List PZ} (h:∀p,p∈a ↔ p∈b) (o:List (List UInt8)) (L g:List Rc.PRec) (x:PEg):x∈ofP a o L g ↔ x∈ofP b o L g:=by
 unfold ofP;rw[any_mem h,List.mem_append,List.mem_append,List.mem_append,List.mem_append];simp only[List.mem_flatMap,h]
theorem flawsP_mem {a b:List PZ} (h:∀p,p∈a ↔ p∈b) (x:PEg):x∈flawsP a ↔ x∈flawsP b:=by
 unfold flawsP zf;simp only[List.mem_flatMap,h,ofP_mem h]
theorem Of.moved {c P Q:List PEg} (h:Of c P) (k:∀x,x∈P ↔ x∈Q):Of c Q:=⟨h.strict,fun x hx=>(k x).1 (h.some x hx),fun y hy=>h.all y ((k y).2 hy)⟩
theorem under_wher {o n:Zn.Nam} {L:List Rc.PRec} (h:Zn.wher o L n=2):Nm.under n o=true:=by
 rcases hu:Nm.under n o with _|_
 ·rw[Zn.wher_not hu] at h;cases h
 ·rfl
def Fine (x:PEg):Prop:=(∃k:Nat,1<=k/\k<5/\x.kind=(k:Int))/\Nm.under x.child x.parent=true
theorem pair_fine {o:List (List UInt8)} {L g:List Rc.PRec} {oc:List (List UInt8)} {Lc:List Rc.PRec} {i:Int} (hu:Nm.under (ownerOf g) o=true):∀x∈pair o L g oc Lc i,Fine x:=fun x hx=>by
 unfold pair at hx;rw[List.mem_append,List.mem_flatMap] at hx;rcases hx with hx|⟨n,_,hx⟩
 ·split at hx
  ·cases hx
  ·rw[List.mem_singleton] at hx;subst hx;exact⟨⟨1,by omega,by omega,rfl⟩,hu⟩
 ·unfold glue1 at hx
  split at hx
  ·rw[List.mem_singleton] at hx;subst hx;exact⟨⟨2,by omega,by omega,rfl⟩,hu⟩
  ·cases hx
theorem flaw_fine {zp:List PZ} {x:PEg} (h:x∈flawsP zp):Fine x:=by
 unfold flawsP zf at h;obtain⟨p,_,h⟩:=List.mem_flatMap.1 h;obtain⟨g,hg,h⟩:=List.mem_flatMap.1 h;have hu:=under_wher (cut_found hg).2.2.2;unfold ofP at h;rw[List.mem_append,List.mem_append,List.mem_flatMap,List.mem_flatMap] at h;rcases h with (⟨n,_,h⟩|⟨q,_,h⟩)|h
 ·unfold nog at h
  split at h
  ·cases h
  ·rw[List.mem_singleton] at h;subst h;exact⟨⟨3,by omega,by omega,rfl⟩,hu⟩
 ·unfold ag at h
  split at h
  ·exact pair_fine hu x h
  ·cases h
 ·split at h
  ·cases h
  ·rw[List.mem_singleton] at h;subst h;exact⟨⟨4,by omega,by omega,rfl⟩,hu⟩
end Eg
end
section
open Go.RowKit Go.Shelf
section
variable {F:Fence} {n:Nat}
theorem append_g0 (R:Nat->Prop) {ops:Array Oper} {rest:List Oper} {o:Oper} {a:Act} {w:World} {Q:Exit->Act->World->Prop} (et:TypeId) (z:Value) (k bytes:Nat)
  (hinf:(Tryz.prog.info? et).map (fun i=>(i.zero,i.size,i.bytes))=some (some z,k,bytes)) (hz:z.cells.size=k) (hk:0<k)
  (hg:o.guard=none) (s x:Operand) (t:TypeId) (ht:Tryz.prog.underlying t=some (.slice et)) (hop:o.op=Op.call { callee:=Callee.builtin Builtin.append,args:=#[s,x],argTypes:=#[t,t] })
  (b:Addr) (hs:a.eval s=.slice (some b) 0 0) (u:Value) (l:List (List Value)) (hx:a.eval x=u) (hu:GRd k u l w) (h0:0<l.length) (hb:l.length<=100000) (hby:bytes<=1000000000) (hR:∀g,w.heap.size<=g->R g)
  (hK:∀v' w',Row R et k v' l.length l.flatten w'->w.grownBy w' none->wpListIn F n Tryz.prog ops Q rest (a.put o.dst v') w') :
  wpListIn F n Tryz.prog ops Q (o::rest) a w:=by
 obtain⟨i0,hi,hz0,hz1,hz2⟩:=info_parts hinf;obtain⟨oa,cap,rfl,h1,h2,h3,h4,h5⟩:=hu;cases oa with
 | none =>
  have:=h3 rfl
  omega
 | some ad =>
  have hl5:∀y∈l,y.length=k:=fun y hy=>(h4 y hy).1
  refine wpListIn_plain hg fun K hK'=>?_
  obtain⟨v',w',hrun,r1,r2⟩:=run_append_arg_grows (P:=Tryz.prog) (w:=w) t o.type et i0 z k bytes ht hi hz0 hz1 hz2 hz hk b 0 0 [] (by simp) (fun j u h=>by simp at h) ad l.length cap l.flatten (flatten_len hl5) (fun q u hq=>by
    have hql:q<l.length*k:=by
     rw[<-flatten_len hl5];exact (List.getElem?_eq_some_iff.1 hq).1
    have q1:q / k<l.length:=by rw[Nat.div_lt_iff_lt_mul hk];exact hql
    have q2:q % k<k:=Nat.mod_lt _ hk;have q3:q / k*k+q % k=q:=by rw[Nat.mul_comm];exact Nat.div_add_mod q k
    obtain⟨a',ha,hc⟩:=h5 (q / k) q1 (q % k) q2;cases ha;rw[q3] at hc;rw[hc,<-flatten_get hl5 _ _ q1 q2,q3,hq]) (by omega) (by unfold maxLen;omega) (by
    have:(0+l.length)*bytes<=100000*1000000000:=Nat.mul_le_mul (by omega) hby
    omega)
  unfold Oper.wpIn;refine⟨?_,?_⟩
  ·simp[Oper.about,hop,resolve,Target.leads,Sem.run_pure]
  ·rw[Oper.semAt_plain F _ _ (by rw[hop];intro c hc';cases hc')]
   simp[execOp,hop,resolve,invoke,builtin,hs,hx,hrun,Result.andThen];refine hK' _ _ (hK _ _ ⟨?_,fun g hg'=>?_⟩ r2)
   ·obtain⟨q1,q2⟩:=r1
    rw[Nat.zero_add,Zm] at q1 q2;refine⟨q1,?_⟩;rcases q2 with q2|⟨g,c,cur,e1,_,e3⟩
    ·exact .inl q2
    ·exact .inr ⟨g,c,cur,e1,Nat.zero_le _,e3⟩
   ·obtain⟨_,q2⟩:=r1
    rcases q2 with⟨q2,_⟩|⟨g',c,cur,e1,e2,_⟩
    ·rw[q2] at hg';cases hg'
    ·rw[e1] at hg';cases hg';exact hR _ e2
end
end
section
open Go.RowKit Go.Shelf Go.Sort
attribute [local go_sem] Oper.semAt_some
set_option maxHeartbeats 1000000 in
theorem short_any (v:Value) (n:List (List UInt8)) (w:World) (hv:Rd v n w):Calls Tryz.prog 46 #[v] w (Says (NB n) w):=by
 obtain⟨o,cap,rfl,hc,hm⟩:=hv.form;have HV:=Hd hv;clear hv;by_cases h130:130<n.length
 ·have h1:(130:Int)<(n.length:Int):=by omega
  have h2:decide ((130:Int)<(n.length:Int))=true:=zM h1
  go_enter Tryz.func46,Tryz.ntmps46
  go_wp2_with fail
  go_ret
  exact Says.no (Below.refl _ _)
 ·have h1:¬(130:Int)<(n.length:Int):=by omega
  have h2:decide ((130:Int)<(n.length:Int))=false:=zL h1
  go_enter Tryz.func46,Tryz.ntmps46
  go_wp2_with fail
  go_loopw [3] (fun vi wr=>∃k:Nat,k<=n.length/\vi=.int .i64 k/\Hid (∀j (h:j<n.length),j<k->n[j].length<=100)/\wr=w) (fun vi _=>n.length-(intOf vi).toNat)
  case atStart=>exact⟨0,Nat.zero_le _,rfl,fun j _ h=>by omega,by trivial⟩
  case round =>
   obtain⟨k,hk,rfl,HK,rfl⟩:=hrel;by_cases hlt:k<n.length
   ·have hlz:(k:Int)<(n.length:Int):=by omega
    obtain⟨a,rfl,c0⟩:=HV.out.cells _ (Below.refl _ _) k hlt;obtain⟨x,hx⟩:=Zq (n[k]);rw[hx] at c0;have HX:=Hd hx;clear hx;by_cases hl:100<x.length
    ·have g1:(100:Int)<(x.length:Int):=by omega
     have g2:decide ((100:Int)<(x.length:Int))=true:=zM g1;have g3:decide (100<x.length)=true:=zM hl;go_wp2_with fail
     go_ret
     exact Says.no (Below.refl _ _)
    ·have g1:¬(100:Int)<(x.length:Int):=by omega
     have g2:decide ((100:Int)<(x.length:Int))=false:=zL g1;have g3:decide (100<x.length)=false:=zL hl;go_wp2_with fail
     refine⟨⟨k+1,hlt,by go_num,fun j hj hjk=>?_,by trivial⟩,by simp[intOf];omega⟩
     by_cases e:j<k
     ·exact HK.out j hj e
     ·obtain rfl:j=k:=by omega
      rw[HX.out];omega
   ·have hlz:¬((k:Int)<(n.length:Int)):=by omega
    go_wp2_with fail
    go_ret
    refine⟨true,rfl,fun _=>⟨by omega,fun x hx=>?_⟩,Below.refl _ _⟩
    obtain⟨j,hj,rfl⟩:=List.mem_iff_getElem.1 hx;have:=HK.out j hj (by omega)
    omega
section
variable {w:World}
structure SvE (w:World) where
 vn:Value
 a0:Int
 a1:Int
 a2:Int
 a3:Int
 name:List (List UInt8)
 pls:List (Value × List (List UInt8))
 hn:Rd vn name w
 hp:∀p∈pls,Rd p.1 p.2 w
def encPl (p:Value × List (List UInt8)):List Value:=[p.1,S [120]]
def SvC (tP:TypeId) (s:SvE w) (cs:List Value) (W:World):Prop :=
 ∃vz,cs=[s.vn,.int .u8 s.a0,.int .u8 s.a1,.int .u8 s.a2,.int .u8 s.a3,vz]/\GRd 2 vz (s.pls.map encPl) W/\Ty vz tP W
theorem SvC.keepTy {T:TypeId->Prop} {tP:TypeId} {s:SvE w} {cs:List Value} {A B:World} (h:SvC tP s cs A) (ht:¬T tP) (hk:keepT T A B):SvC tP s cs B:=by
 obtain⟨vz,h1,h2,h3⟩:=h;exact⟨vz,h1,h2.keepTy h3 ht hk,h3.keep ht hk⟩
def CfC (tP:TypeId) (ss:List (SvE w)) (v:Value) (W:World):Prop :=
 ∃css:List (List Value),GRd 6 v css W/\css.length=ss.length/\∀i (h:i<css.length) (h':i<ss.length),SvC tP ss[i] css[i] W
theorem CfC.below {tP:TypeId} {ss:List (SvE w)} {v:Value} {A B:World} (h:CfC tP ss v A) (hb:Below A.heap.size A B):CfC tP ss v B:=by
 obtain⟨css,h1,h2,h3⟩:=h;exact⟨css,h1.below hb,h2,fun i hi hi'=>(h3 i hi hi').keepTy (T:=fun _=>False) (fun h=>h) (keepT.below hb)⟩
theorem CfC.form {tP:TypeId} {ss:List (SvE w)} {v:Value} {W:World} (h:CfC tP ss v W):∃o cap,v=.slice o ss.length cap:=by
 obtain⟨css,h1,h2,_⟩:=h;obtain⟨o,c,e,_⟩:=h1.form;exact⟨o,c,by rw[e,h2]⟩
theorem CfC.at {tP:TypeId} {ss:List (SvE w)} {o:Option Addr} {n cap:Nat} {W:World} (h:CfC tP ss (.slice o n cap) W) (i:Nat) (hi:i<ss.length) :
  ∃a oz cz,o=some a/\GRd 2 (.slice oz ss[i].pls.length cz) (ss[i].pls.map encPl) W/\∀W',Below W.heap.size W W'->W'.cell? (a.add (i*6))=some ss[i].vn/\W'.cell? ⟨(a.add (i*6)).block,(a.add (i*6)).off+1,none⟩=some (.int .u8 ss[i].a0)/\W'.cell? ⟨(a.add (i*6)).block,(a.add (i*6)).off+2,none⟩=some (.int .u8 ss[i].a1)/\W'.cell? ⟨(a.add (i*6)).block,(a.add (i*6)).off+3,none⟩=some (.int .u8 ss[i].a2)/\W'.cell? ⟨(a.add (i*6)).block,(a.add (i*6)).off+4,none⟩=some (.int .u8 ss[i].a3)/\W'.cell? ⟨(a.add (i*6)).block,(a.add (i*6)).off+5,none⟩=some (.slice oz ss[i].pls.length cz):=by
 obtain⟨css,h1,h2,h3⟩:=h;have hi':i<css.length:=by omega
 obtain⟨a,rfl,_⟩:=h1.at (by decide) i hi'
 obtain⟨vz,e1,e2,e3⟩:=h3 i hi' hi;obtain⟨oz,cz,e4,_⟩:=e2.form;rw[Zf] at e4;subst e4;refine⟨a,oz,cz,rfl,e2,fun W' hW=>?_⟩
 obtain⟨a',ha,q0,q1⟩:=(h1.below hW).at (by decide) i hi'
 cases ha;simp only[e1] at q0 q1;exact⟨q0,q1 1 (by decide) (by decide),q1 2 (by decide) (by decide),q1 3 (by decide) (by decide),q1 4 (by decide) (by decide),q1 5 (by decide) (by decide)⟩
theorem pl_at {oz:Option Addr} {n cz:Nat} {l:List (Value × List (List UInt8))} {W:World} (h:GRd 2 (.slice oz n cz) (l.map encPl) W) (j:Nat) (hj:j<l.length) :
  ∃b,oz=some b/\∀W',Below W.heap.size W W'->W'.cell? (b.add (j*2))=some l[j].1/\W'.cell? ⟨(b.add (j*2)).block,(b.add (j*2)).off+1,none⟩=some (S [120]):=by
 have hj':j<(l.map encPl).length:=by rw[Zf];exact hj
 obtain⟨b,rfl,_⟩:=h.at (by decide) j hj'
 refine⟨b,rfl,fun W' hW=>?_⟩
 obtain⟨a',ha,q0,q1⟩:=(h.below hW).at (by decide) j hj'
 cases ha;rw[List.getElem_map] at q0 q1;exact⟨q0,q1 1 (by decide) (by decide)⟩
set_option maxHeartbeats 4000000 in
theorem few15_any {w0:World} (hb0:Below w.heap.size w w0) (tP:TypeId) (ss:List (SvE w)) (vs:Value) (ro:Option Addr) (rl rc:Nat) (r1 r2:Int) (hc:CfC tP ss vs w0) (hs:ss.length<=6) (hr:rl<=4) (hp:∀s∈ss,s.pls.length<=4) :
  Calls Tryz.prog 21 #[.agg #[vs,.slice ro rl rc,.int .i64 r1,.int .i64 r2]] w0 (Says (∀s∈ss,NB s.name) w0):=by
 obtain⟨os,cs,rfl⟩:=hc.form;obtain⟨sl,hsl⟩:=Zq ss.length;rw[hsl] at hc ⊢;obtain⟨W1,hW1⟩:=Zq (w0.alloc (.cells #[.slice os sl cs,.slice ro rl rc,.int .i64 r1,.int .i64 r2] 57));have HB1:Hid (Below w0.heap.size w0 W1):=by show Below _ _ _;rw[<-hW1];exact Zr
 have hk0:Blk w0.heap.size #[.slice os sl cs,.slice ro rl rc,.int .i64 r1,.int .i64 r2] 57 W1:=by rw[<-hW1];exact Blk.new w0 _ _
 have HC:=Hd (hc.below HB1.out);have HCN:Hid (∀W',Below W1.heap.size W1 W'->W'.cell? ⟨w0.heap.size,0,none⟩=some (.slice os sl cs)/\W'.cell? ⟨w0.heap.size,1,none⟩=some (.slice ro rl rc)):=fun W' hW=>⟨(hk0.below hW).cell 0,(hk0.below hW).cell 1⟩
 have HWW:Hid (∀W',Below W1.heap.size W1 W'->Below w.heap.size w W'):=fun W' hW=>Z5 (Z5 hb0 HB1.out) hW
 have HSL:=Hd hsl;have HP:=Hd hp;have g1:(sl:Int)<=6:=by omega
 have g2:(rl:Int)<=4:=by omega
 have g3:¬(20:Int)<(sl:Int):=by omega
 have g4:¬(20:Int)<(rl:Int):=by omega
 have g5:decide ((20:Int)<(sl:Int))=false:=zL g3;have g6:decide ((20:Int)<(rl:Int))=false:=zL g4;have g7:decide (20<sl)=false:=zL (by omega)
 have g8:decide (20<rl)=false:=zL (by omega)
 obtain⟨z0,z1⟩:=HCN.out W1 (Below.refl _ _);clear hc hk0 hb0 hsl hp;refine (zF (n:=0)).1 ?_;refine callsIn_of_wp Tryz.func21 rfl trivial ?_ rfl;simp only[Tryz.ntmps21,Zo,Ze,Zg,Nat.reduceAdd,Nat.reduceSub,Zi,Zj,Zk,Zl,Zm,Zp];gi_wp2_with fail
 clear hW1 g3 g4 g5 g6 g7 g8
 gi_loopw [3] (fun vi W=>∃i:Nat,i<=sl/\vi=.int .i64 i/\Hid (∀j (h:j<ss.length),j<i->NB ss[j].name)/\Hid (Below W1.heap.size W1 W)) (fun vi _=>sl-(intOf vi).toNat)
 case atStart=>exact⟨0,Nat.zero_le _,rfl,fun j _ h=>by omega,Below.refl _ _⟩
 case round =>
  clear z0 z1;obtain⟨i,hi,rfl,HN,HB⟩:=hrel;obtain⟨wr,rfl⟩:∃q,q=wr:=⟨_,rfl⟩;obtain⟨z0,z1⟩:=HCN.out wr HB.out;by_cases hlt:i<sl
  case neg =>
   have hlz:¬((i:Int)<(sl:Int)):=by omega
   gi_wp2_with fail
   go_ret
   refine⟨true,rfl,fun _ s hs=>?_,Z5 HB1.out HB.out⟩
   obtain⟨j,hj,rfl⟩:=List.mem_iff_getElem.1 hs;exact HN.out j hj (by have:=HSL.out;omega)
  case pos =>
  have hlz:(i:Int)<(sl:Int):=by omega
  have his:i<ss.length:=by rw[HSL.out];exact hlt
  obtain⟨a,oz,cz,rfl,hz,hcell⟩:=HC.out.at i his;obtain⟨s,hs⟩:=Zq (ss[i]);rw[hs] at hz hcell;have hpl:s.pls.length<=4:=HP.out s (by rw[<-hs];exact List.getElem_mem _)
  have HS:Hid (∀h:i<ss.length,ss[i]=s):=fun _=>hs
  obtain⟨pl,hpl'⟩:∃n,s.pls.length=n:=⟨_,rfl⟩;rw[hpl'] at hz hcell hpl;obtain⟨on,cn,hvn,hf1,hf2⟩:=s.hn.form;rw[hvn] at hcell;obtain⟨ea,hea⟩:=Zq (a.add (i*6));rw[hea] at hcell;have HCE:=Hd hcell;have HZ:=Hd hz;have HPL:=Hd hpl';have hrd:=s.hn;rw[hvn] at hrd;have HSH:=Hd (short_any _ s.name wr (hrd.below (HWW.out wr HB.out)));have g1:(pl:Int)<=4:=by omega
  have g3:¬(20:Int)<(pl:Int):=by omega
  have g5:decide ((20:Int)<(pl:Int))=false:=zL g3;have g7:decide (20<pl)=false:=zL (by omega)
  obtain⟨e0,_,_,_,_,e5⟩:=hcell wr HB.out;clear hs hz hcell hvn hf1 hf2 hrd hpl';gi_wp2_with fail
  refine (callsIn_wide.2 HSH.out).mono ?_;rintro e9 wa ⟨b,rfl,hq,b9⟩;have HQ:=Hd hq;have HBA:=Hd (Z5 HB.out b9);clear b9 hq e0 e5 z0 z1 HSH;obtain⟨z0,z1⟩:=HCN.out wa HBA.out;obtain⟨e0,_,_,_,_,e5⟩:=HCE.out wa HBA.out;cases b with
  | false =>
   gi_wp2_with fail
   go_ret
   exact Says.no (Z5 HB1.out HBA.out)
  | true =>
  have NBS:=Hd (HQ.out rfl);clear HQ;gi_wp2_with fail
  clear z0 z1 e0 e5 g3 g5 g7
  gi_loopw [4] (fun vj W=>∃j:Nat,j<=pl/\vj=.int .i64 j/\Hid (Below W1.heap.size W1 W)) (fun vj _=>pl-(intOf vj).toNat)
  case atStart=>exact⟨0,Nat.zero_le _,rfl,HBA.out⟩
  case round =>
   clear HBA;obtain⟨j,hj,rfl,HBJ⟩:=hrel;obtain⟨wr,rfl⟩:∃q,q=wr:=⟨_,rfl⟩;obtain⟨z0,z1⟩:=HCN.out wr HBJ.out;obtain⟨e0,_,_,_,_,e5⟩:=HCE.out wr HBJ.out;by_cases hlj:j<pl
   case neg =>
    have hljz:¬((j:Int)<(pl:Int)):=by omega
    gi_wp2_with fail
    refine⟨⟨i+1,hlt,by go_num,fun j hj hji=>?_,HBJ⟩,by simp[intOf];omega⟩
    by_cases e:j<i
    ·exact HN.out j hj e
    ·obtain rfl:j=i:=by omega
     rw[HS.out hj];exact NBS.out
   case pos =>
   have hljz:(j:Int)<(pl:Int):=by omega
   have hjp:j<s.pls.length:=by rw[HPL.out];exact hlj
   obtain⟨b,rfl,hpc⟩:=pl_at HZ.out j hjp;obtain⟨p,hp⟩:=Zq (s.pls[j]);have hpr:=s.hp p (by rw[<-hp];exact List.getElem_mem _)
   rw[hp] at hpc;obtain⟨op,cp,hvp,hf1,hf2⟩:=hpr.form;rw[hvp] at hpc hpr;obtain⟨eb,heb⟩:=Zq (b.add (j*2));rw[heb] at hpc;have HPC:=Hd hpc;have HSH:=Hd (short_any _ p.2 wr (hpr.below (HWW.out wr HBJ.out)));obtain⟨d0,d1⟩:=hpc wr HBJ.out;clear hp hpr hpc hvp hf1 hf2;gi_wp2_with fail
   refine (callsIn_wide.2 HSH.out).mono ?_;rintro e9 wb ⟨b2,rfl,_,b9⟩;have HBB:=Hd (Z5 HBJ.out b9);clear b9 e0 e5 z0 z1 d0 d1 HSH;obtain⟨z0,z1⟩:=HCN.out wb HBB.out;obtain⟨e0,_,_,_,_,e5⟩:=HCE.out wb HBB.out;obtain⟨d0,d1⟩:=HPC.out wb HBB.out;cases b2 with
   | false =>
    gi_wp2_with fail
    go_ret
    exact Says.no (Z5 HB1.out HBB.out)
   | true =>
    gi_wp2_with fail
    exact⟨⟨j+1,hlj,by go_num,HBB⟩,by simp[intOf];omega⟩
end
end
end Go.Proofs.YtgmbefolgppmdaaGreat
