/- Records among the arguments. -/
import Derived.Test.YtgmbefolgppmdaaGreatLRcG
import Derived.SliceStrings
import Derived.Test.YtgmbefolgppmdaaGreatLAli
import Derived.Laws.BytesArg
import Derived.Test.YtgmbefolgppmdaaGreatLReg
namespace Go.Proofs.YtgmbefolgppmdaaGreat
set_option maxRecDepth 100000
section
open Go.RowKit Go.Shelf Go.ChangeShapes Go.WideShapes
theorem map_of {α β:Type} {f:α->β}:∀{us:List β},(∀u∈us,∃a,u=f a)->∃l:List α,us=l.map f
 | [],_=>⟨[],rfl⟩
 | u::us,h=>by
  obtain⟨a,rfl⟩:=h u Zu;obtain⟨l,rfl⟩:=map_of (fun v hv=>h v (Zv _ hv))
  exact⟨a::l,rfl⟩
theorem list_of {α:Type} {Q:Nat->α->Prop}:∀(n:Nat),(∀i,i<n->∃x,Q i x)->∃l:List α,l.length=n/\∀i (h:i<l.length),Q i l[i]
 | 0,_=>⟨[],rfl,fun i h=>by simp at h⟩
 | n+1,h=>by
  obtain⟨l,hl,hq⟩:=list_of n (fun i hi=>h i (by omega))
  obtain⟨x,hx⟩:=h n (by omega)
  refine⟨l++[x],by simp[hl],fun i hi=>?_⟩
  by_cases hlt:i<l.length
  ·rw[Zt hlt];exact hq i hlt
  ·have e:i=n:=by simp at hi;omega
   subst e;rw[Zs (by omega)]
   simpa using hx
section
variable {H:Type} {enc:TypeId × Value->H} {P:Program} {W:World} {base:Nat} {sp:Nat->Bool} {held:Bool}
theorem trod_rows {t e:TypeId} {K fuel:Nat} {cs:List Value} {x:DataW H × List MemPlace} (ht:P.underlying t=some (.slice e)) (hK:P.cellsOf e=K) (h:DataW.trod enc P W base sp held fuel t cs=some x) :
  cs=[.slice none 0 0]\/∃(a:Addr) (len cap:Nat),cs=[.slice (some a) len cap]/\len<=cap/\cap<=maxLen /\
   ∀i,i<len->∃(n:Nat) (cs':List Value) (y:DataW H × List MemPlace),cs'.length=K/\(∀j,j<K->W.cell? ((a.add (i*K)).add j)=cs'[j]?)/\DataW.trod enc P W base sp held n e cs'=some y:=by
 rcases DataW.trod_slice ht h with⟨h0,_⟩|⟨a,len,cap,elems,rest,n,_,rfl,_,hb,hl,hm,hlen,hel,_⟩
 ·exact .inl h0
 ·refine .inr ⟨a,len,cap,rfl,hl,hm,fun i hi=>?_⟩
  have:=hel i hi
  rw[zN (by omega),hK,Option.bind_eq_some_iff] at this
  obtain⟨cs',h1,h2⟩:=this;obtain⟨_,h3,h4⟩:=World.cells?_some h1;exact⟨n,cs',_,h3,fun j hj=>h4 j hj,h2⟩
theorem trod_sl {t e:TypeId} {fuel:Nat} {cs:List Value} {x:DataW H × List MemPlace} (ht:P.underlying t=some (.slice e)) (hK:P.cellsOf e=1) (h:DataW.trod enc P W base sp held fuel t cs=some x) :
  ∃v us,cs=[v]/\Sl v us W/\∀u∈us,∃n y,DataW.trod enc P W base sp held n e [u]=some y:=by
 rcases trod_rows ht hK h with rfl|⟨a,len,cap,rfl,hl,hm,hel⟩
 ·exact⟨_,[],rfl,Sl.nil W,by simp⟩
 ·obtain⟨us,hu,hq⟩:=list_of (Q:=fun i u=>W.cell? (a.add i)=some u/\∃n y,DataW.trod enc P W base sp held n e [u]=some y) len (fun i hi=>by
   obtain⟨n,cs',y,h1,h2,h3⟩:=hel i hi
   match cs',h1 with
   | [u],_ =>
    refine⟨u,?_,n,y,h3⟩;have:=h2 0 (by omega)
    rwa [Nat.mul_one,add_zero'] at this)
  subst hu;refine⟨_,us,rfl,⟨some a,cap,rfl,hl,hm,(fun h=>by cases h),fun j hj=>⟨a,rfl,(hq j hj).1⟩⟩,fun u hu=>?_⟩
  obtain⟨j,hj,rfl⟩:=List.mem_iff_getElem.1 hu;exact (hq j hj).2
theorem sl_rd {v:Value} {l:List (List UInt8)} (h:Sl v (l.map S) W):Rd v l W:=by
 obtain⟨o,cap,h1,h2,h3,h4,h5⟩:=h;rw[Zf] at h1 h2;refine⟨o,cap,h1,h2,h3,h4,fun j hj=>?_⟩
 obtain⟨a,ha,hc⟩:=h5 j (by simpa using hj)
 exact⟨a,ha,by rw[hc];simp⟩
theorem rd_of {t e:TypeId} {fuel:Nat} {cs:List Value} {x:DataW H × List MemPlace} (ht:P.underlying t=some (.slice e)) (he:P.underlying e=some .string) (hK:P.cellsOf e=1) (h:DataW.trod enc P W base sp held fuel t cs=some x):∃v l,cs=[v]/\Rd v l W:=by
 obtain⟨v,us,rfl,hs,hu⟩:=trod_sl ht hK h;obtain⟨l,rfl⟩:=map_of (f:=S) (us:=us) (fun u hu'=>by
  obtain⟨n,y,hy⟩:=hu u hu';obtain⟨s,h1,_⟩:=DataW.trod_string he hy;cases h1;exact⟨s.data.toList,by simp[S]⟩)
 exact⟨v,l,rfl,sl_rd hs⟩
theorem ints_of {t e:TypeId} {k:IntKind} {fuel:Nat} {cs:List Value} {x:DataW H × List MemPlace} (ht:P.underlying t=some (.slice e)) (he:P.underlying e=some (.int k)) (hK:P.cellsOf e=1) (h:DataW.trod enc P W base sp held fuel t cs=some x) :
  ∃v,∃ns:List Int,cs=[v]/\Sl v (ns.map fun n:Int=>Value.int k n) W/\∀n∈ns,(Lit.int k n).wf=true:=by
 obtain⟨v,us,rfl,hs,hu⟩:=trod_sl ht hK h;have hu':∀u∈us,∃a:Int,u=Value.int k a/\(Lit.int k a).wf=true:=fun u hu'=>by
  obtain⟨n,y,hy⟩:=hu u hu';obtain⟨s,h1,_,h3⟩:=DataW.trod_int he hy;cases h1;exact⟨s,rfl,h3⟩
 obtain⟨ns,rfl⟩:=map_of (f:=fun n:Int=>Value.int k n) (us:=us) (fun u h=>by obtain⟨a,h1,_⟩:=hu' u h;exact⟨a,h1⟩)
 refine⟨v,ns,rfl,hs,fun n hn=>?_⟩
 obtain⟨a,h1,h2⟩:=hu' _ (List.mem_map_of_mem hn);cases h1;exact h2
end
theorem wf_u32 {n:Int} (h:(Lit.int .u32 n).wf=true):∃m:Nat,n=(m:Int)/\m<4294967296:=by
 have h':0<=n/\n<4294967296:=by
  simp only[Lit.wf,Bool.and_eq_true,decide_eq_true_eq] at h;have h1:IntKind.u32.min=0:=by decide
  have h2:IntKind.u32.max=4294967296-1:=by decide
  omega
 exact⟨n.toNat,by omega,by omega⟩
theorem wf_u8 {n:Int} (h:(Lit.int .u8 n).wf=true):∃b:UInt8,n=(b.toNat:Int):=by
 have h':0<=n/\n<256:=by
  simp only[Lit.wf,Bool.and_eq_true,decide_eq_true_eq] at h;have h1:IntKind.u8.min=0:=by decide
  have h2:IntKind.u8.max=256-1:=by decide
  omega
 refine⟨UInt8.ofNat n.toNat,?_⟩;simp[UInt8.toNat_ofNat'];omega
section
variable {H:Type} {enc:TypeId × Value->H} {W:World} {base:Nat} {sp:Nat->Bool} {held:Bool}
theorem nums_of {fuel:Nat} {cs:List Value} {x:DataW H × List MemPlace} (h:DataW.trod enc Tryz.prog W base sp held fuel 105 cs=some x):∃v ns,cs=[v]/\Sl v (numC ns) W/\∀n∈ns,n<4294967296:=by
 obtain⟨v,ns,rfl,hs,hw⟩:=ints_of Tryz.underlying105 Tryz.underlying86 (by kernel_rfl) h
 obtain⟨ms,rfl⟩:=map_of (f:=fun n:Nat=>(n:Int)) (us:=ns) (fun u h=>by obtain⟨m,h1,_⟩:=wf_u32 (hw u h);exact⟨m,h1⟩)
 refine⟨v,ms,rfl,?_,fun n hn=>?_⟩
 ·rw[List.map_map] at hs;exact hs
 ·obtain⟨m,h1,h2⟩:=wf_u32 (hw _ (List.mem_map_of_mem hn));omega
theorem raw_of {fuel:Nat} {cs:List Value} {x:DataW H × List MemPlace} (h:DataW.trod enc Tryz.prog W base sp held fuel 104 cs=some x):∃v l,cs=[v]/\BtRd v l W:=by
 obtain⟨v,ns,rfl,hs,hw⟩:=ints_of Tryz.underlying104 Tryz.underlying5 (by kernel_rfl) h
 obtain⟨ms,rfl⟩:=map_of (f:=fun b:UInt8=>(b.toNat:Int)) (us:=ns) (fun u h=>wf_u8 (hw u h))
 refine⟨v,ms,rfl,?_⟩;rw[List.map_map] at hs;exact hs
theorem nms_of {fuel:Nat} {cs:List Value} {x:DataW H × List MemPlace} (h:DataW.trod enc Tryz.prog W base sp held fuel 50 cs=some x):∃v ns,cs=[v]/\NmsRd v ns W:=by
 obtain⟨v,us,rfl,hs,hu⟩:=trod_sl Tryz.underlying50 (by kernel_rfl) h
 obtain⟨ns,hn,hq⟩:=list_of (Q:=fun i n=>∀(h:i<us.length),Rd us[i] n W) us.length (fun i hi=>by
  obtain⟨n,y,hy⟩:=hu us[i] (List.getElem_mem hi);obtain⟨v,l,e,hr⟩:=rd_of Tryz.underlying38 Tryz.underlying9 (by kernel_rfl) hy
  cases e;exact⟨l,fun _=>hr⟩)
 exact⟨v,ns,rfl,us,hn.symm,hs,fun i hi hi'=>hq i hi' hi⟩
def RN (r:Rc.PRec):Prop:=r.ttl<4294967296/\∀n∈r.nums,n<4294967296
theorem dat_of {fuel:Nat} {cs:List Value} {x:DataW H × List MemPlace} (h:DataW.trod enc Tryz.prog W base sp held fuel 107 cs=some x):∃r:Rc.PRec,DatRd cs r W/\∀n∈r.nums,n<4294967296:=by
 obtain⟨xs,n,rfl,_,hl,hx,hf⟩:=DataW.trod_struct Tryz.underlying107 h;rw[show Tryz.prog.cellsOf 107=5 by kernel_rfl] at hl
 match cs,hl with
 | [c0,c1,c2,c3,c4],_ =>
 have one:Tryz.prog.cellsOf 3=1/\Tryz.prog.cellsOf 50=1/\Tryz.prog.cellsOf 105=1/\Tryz.prog.cellsOf 37=1/\Tryz.prog.cellsOf 104=1:=⟨by kernel_rfl,by kernel_rfl,by kernel_rfl,by kernel_rfl,by kernel_rfl⟩
 have hx':xs.length=5:=hx;have f0:DataW.trod enc Tryz.prog W base sp held n 3 (([c0,c1,c2,c3,c4].drop 0).take (Tryz.prog.cellsOf 3))=xs[0]?:=hf 0 _ rfl;have f1:DataW.trod enc Tryz.prog W base sp held n 50 (([c0,c1,c2,c3,c4].drop 1).take (Tryz.prog.cellsOf 50))=xs[1]?:=hf 1 _ rfl;have f2:DataW.trod enc Tryz.prog W base sp held n 105 (([c0,c1,c2,c3,c4].drop 2).take (Tryz.prog.cellsOf 105))=xs[2]?:=hf 2 _ rfl;have f3:DataW.trod enc Tryz.prog W base sp held n 37 (([c0,c1,c2,c3,c4].drop 3).take (Tryz.prog.cellsOf 37))=xs[3]?:=hf 3 _ rfl;have f4:DataW.trod enc Tryz.prog W base sp held n 104 (([c0,c1,c2,c3,c4].drop 4).take (Tryz.prog.cellsOf 104))=xs[4]?:=hf 4 _ rfl;simp only[one.1,one.2.1,one.2.2.1,one.2.2.2.1,one.2.2.2.2,List.drop_zero,List.drop_succ_cons,List.take_succ_cons,List.take_zero] at f0 f1 f2 f3 f4;rw[zN (by omega)] at f0 f1 f2 f3 f4
 obtain⟨z,e0,_,_⟩:=DataW.trod_int Tryz.underlying3 f0;obtain⟨v1,ns,e1,r1⟩:=nms_of f1;obtain⟨v2,ms,e2,r2,w2⟩:=nums_of f2;obtain⟨v3,ts,e3,r3⟩:=rd_of Tryz.underlying37 Tryz.underlying9 (by kernel_rfl) f3
 obtain⟨v4,bs,e4,r4⟩:=raw_of f4;cases e0;cases e1;cases e2;cases e3;cases e4;exact⟨⟨[],0,z,ns,ms,ts,bs⟩,⟨_,_,_,_,rfl,r1,r2,r3,r4⟩,w2⟩
theorem rec_of {fuel:Nat} {cs:List Value} {x:DataW H × List MemPlace} (h:DataW.trod enc Tryz.prog W base sp held fuel 110 cs=some x):∃r:Rc.PRec,RecRd cs r W/\RN r:=by
 obtain⟨xs,n,rfl,_,hl,hx,hf⟩:=DataW.trod_struct Tryz.underlying110 h;rw[show Tryz.prog.cellsOf 110=7 by kernel_rfl] at hl
 match cs,hl with
 | [c0,c1,c2,c3,c4,c5,c6],_ =>
 have one:Tryz.prog.cellsOf 38=1/\Tryz.prog.cellsOf 86=1/\Tryz.prog.cellsOf 107=5:=⟨by kernel_rfl,by kernel_rfl,by kernel_rfl⟩
 have hx':xs.length=3:=hx;have f0:DataW.trod enc Tryz.prog W base sp held n 38 (([c0,c1,c2,c3,c4,c5,c6].drop 0).take (Tryz.prog.cellsOf 38))=xs[0]?:=hf 0 _ rfl;have f1:DataW.trod enc Tryz.prog W base sp held n 86 (([c0,c1,c2,c3,c4,c5,c6].drop 1).take (Tryz.prog.cellsOf 86))=xs[1]?:=hf 1 _ rfl;have f2:DataW.trod enc Tryz.prog W base sp held n 107 (([c0,c1,c2,c3,c4,c5,c6].drop 2).take (Tryz.prog.cellsOf 107))=xs[2]?:=hf 2 _ rfl;simp only[one.1,one.2.1,one.2.2,List.drop_zero,List.drop_succ_cons,List.take_succ_cons,List.take_zero] at f0 f1 f2;rw[zN (by omega)] at f0 f1 f2
 obtain⟨v0,o,e0,r0⟩:=rd_of Tryz.underlying38 Tryz.underlying9 (by kernel_rfl) f0
 obtain⟨z,e1,_,w1⟩:=DataW.trod_int Tryz.underlying86 f1;obtain⟨m,rfl,wm⟩:=wf_u32 w1;obtain⟨r,hr,wn⟩:=dat_of f2;cases e0;cases e1;exact⟨{ r with owner:=o,ttl:=m },⟨_,_,rfl,r0,hr⟩,wm,wn⟩
theorem recs_of {fuel:Nat} {cs:List Value} {x:DataW H × List MemPlace} (h:DataW.trod enc Tryz.prog W base sp held fuel 52 cs=some x):∃v l,cs=[v]/\RecsRd v l W/\∀x∈l,RN x.2:=by
 rcases trod_rows Tryz.underlying52 (show Tryz.prog.cellsOf 110=7 by kernel_rfl) h with rfl|⟨a,len,cap,rfl,hl,hm,hel⟩
 ·exact⟨_,[],rfl,⟨by simp,none,0,rfl,by simp,by unfold maxLen;omega,fun _=>rfl,fun j h=>by simp[encP] at h⟩,by simp⟩
 ·obtain⟨l,hlen,hq⟩:=list_of (Q:=fun i (x:RP)=>RecRd x.1 x.2 W/\RN x.2/\∀j,j<7->W.cell? (a.add (i*7+j))=x.1[j]?) len (fun i hi=>by
   obtain⟨n,cs',y,h1,h2,h3⟩:=hel i hi;obtain⟨r,hr,hn⟩:=rec_of h3;exact⟨(cs',r),hr,hn,fun j hj=>by rw[<-h2 j hj,add_add']⟩)
  subst hlen;have hall:∀x∈l,RecRd x.1 x.2 W/\RN x.2:=fun x hx=>by
   obtain⟨i,hi,rfl⟩:=List.mem_iff_getElem.1 hx;exact⟨(hq i hi).1,(hq i hi).2.1⟩
  have h7:∀x∈l,x.1.length=7:=fun x hx=>(hall x hx).1.len
  refine⟨_,l,rfl,⟨fun x hx=>(hall x hx).1,some a,cap,rfl,hl,hm,(fun h=>by cases h),fun j hj=>⟨a,rfl,?_⟩⟩,fun x hx=>(hall x hx).2⟩
  have hj':=hj;rw[encP_len h7] at hj';have h1:j / 7<l.length:=by omega
  have h2:j % 7<7:=Nat.mod_lt _ (by omega)
  have h3:=(hq (j / 7) h1).2.2 (j % 7) h2;have h4:=encP_get h7 (j / 7) (j % 7) h1 h2;rw[show j / 7*7+j % 7=j by omega] at h3 h4
  rw[h3,<-h4,zN hj]
end
end
section
open Go.RowKit Go.Shelf
theorem conv_bt {v:Value} {l:List UInt8} {W:World} (h:BtRd v l W):(convert 104 9 v).run Tryz.prog W=.ok (S l) W:=by
 obtain⟨o,cap,rfl,h1,h2,h3,h4⟩:=h;cases o with
 | none =>
  have h0:=h3 rfl;have:l=[]:=List.length_eq_zero_iff.1 (by simp at h1;omega)
  subst this;exact run_convert_bytes_nil _ _ 5 Tryz.underlying104 Tryz.underlying5 _ _ _ Tryz.underlying9
 | some a =>
  rw[Zf];refine run_convert_bytes_back _ _ _ 5 _ _ l Tryz.underlying104 Tryz.underlying5 Tryz.underlying9 (fun j hj=>?_)
  obtain⟨a',ha,hc⟩:=h4 j (by simpa using hj)
  cases ha;rw[hc];simp
theorem Rc.row_step {α:Type} {f:α->α->Int} {a b:List α} {k:Nat} (ha:k<a.length) (hb:k<b.length):Rc.row f (a.drop k) (b.drop k)=if f a[k] b[k]≠0 then f a[k] b[k] else Rc.row f (a.drop (k+1)) (b.drop (k+1)):=by
 rw[Zy ha,Zy hb];rfl
theorem Rc.row_end {α:Type} {f:α->α->Int} {a b:List α} {k:Nat} (ha:k<=a.length) (hb:k<=b.length) (h:a.length<=k\/b.length<=k):Rc.row f (a.drop k) (b.drop k)=Nm.sgn ((a.length:Int)-b.length) 0:=by
 have la:(a.drop k).length=a.length-k:=by simp
 have lb:(b.drop k).length=b.length-k:=by simp
 rcases ha':a.drop k with _|⟨x,xs⟩<;>rcases hb':b.drop k with _|⟨y,ys⟩<;>rw[ha'] at la<;>rw[hb'] at lb<;>simp only[Ze,Zg] at la lb<;>simp only[Rc.row]
 ·unfold Nm.sgn;rw[if_neg (by omega),if_neg (by omega)]
 ·unfold Nm.sgn;rw[if_pos (by omega)]
 ·unfold Nm.sgn;rw[if_neg (by omega),if_pos (by omega)]
 ·omega
set_option maxHeartbeats 1000000 in
theorem apart_any (x y:Int) (w:World):Calls Tryz.prog 124 #[.int .i64 x,.int .i64 y] w fun e w'=>e=.returned (.int .i64 (Nm.sgn x y))/\w=w':=by
 rcases Int.lt_trichotomy x y with h|h|h
 ·have H:=Hd (show Nm.sgn x y=-1 by unfold Nm.sgn;rw[if_pos h])
  go_enter Tryz.func124,Tryz.ntmps124
  go_wp2
  go_ret
  exact⟨by rw[H.out];rfl,rfl⟩
 ·subst h
  have H:=Hd (show Nm.sgn x x=0 by unfold Nm.sgn;simp)
  go_enter Tryz.func124,Tryz.ntmps124
  go_wp2
  go_ret
  exact⟨by rw[H.out];rfl,rfl⟩
 ·have H:=Hd (show Nm.sgn x y=1 by unfold Nm.sgn;rw[if_neg (by omega),if_pos h])
  have h2:¬x<y:=by omega
  go_enter Tryz.func124,Tryz.ntmps124
  go_wp2
  go_ret
  exact⟨by rw[H.out];rfl,rfl⟩
theorem Rc.orI_left {x y:Int} (h:x≠0):Rc.orI x y=x:=if_pos h
theorem Rc.orI_right (y:Int):Rc.orI 0 y=y:=if_neg (by simp)
theorem sgn_ne {m n:Nat} (h:m≠n):Nm.sgn ((m:Int)-n) 0≠0:=by unfold Nm.sgn;split<;>(try split)<;>omega
set_option maxHeartbeats 8000000 in
theorem refCompareData_any (va vb:List Value) (a b:Rc.PRec) (w:World) (ha:DatRd va a w) (hb:DatRd vb b w) (na:RB a) (nb:RB b) :
  Calls Tryz.prog 102 #[.agg va.toArray,.agg vb.toArray] w (Gives (.int .i64 (Rc.cmpD a b)) w):=by
 obtain⟨vn,vm,vt,vr,rfl,⟨us,u1,u2,u3⟩,a2,a3,a4⟩:=ha;obtain⟨yn,ym,yt,yr,rfl,⟨vs,v1,v2,v3⟩,b2,b3,b4⟩:=hb;obtain⟨pa1,qa1,rfl,ca1,cb1⟩:=u2.form;obtain⟨pa2,qa2,rfl,ca2,cb2⟩:=a2.form;obtain⟨pa3,qa3,rfl,ca3,cb3⟩:=a3.form;obtain⟨pa4,qa4,rfl,_,_⟩:=Sl.form a4;obtain⟨pb1,qb1,rfl,cc1,cd1⟩:=v2.form;obtain⟨pb2,qb2,rfl,cc2,cd2⟩:=b2.form;obtain⟨pb3,qb3,rfl,cc3,cd3⟩:=b3.form;obtain⟨pb4,qb4,rfl,_,_⟩:=Sl.form b4;have la2:(numC a.nums).length=a.nums.length:=by simp[numC]
 have lb2:(numC b.nums).length=b.nums.length:=by simp[numC]
 obtain⟨m4,hm4⟩:∃m,(a.raw.map fun b:UInt8=>Value.int .u8 (b.toNat:Int)).length=m:=⟨_,rfl⟩
 obtain⟨n4,hn4⟩:∃m,(b.raw.map fun b:UInt8=>Value.int .u8 (b.toNat:Int)).length=m:=⟨_,rfl⟩
 have hm4':=hm4;have hn4':=hn4;have A1:=Hd u2;have A2:=Hd a2;have A3:=Hd a3;have A4:=Hd a4;have B1:=Hd v2;have B2:=Hd b2;have B3:=Hd b3;have B4:=Hd b4;rw[hm4] at A4 ⊢;rw[hn4] at B4 ⊢;obtain⟨m1,hm1⟩:=Zq us.length;obtain⟨n1,hn1⟩:=Zq vs.length;obtain⟨m2,hm2⟩:=Zq ((numC a.nums).length);obtain⟨n2,hn2⟩:=Zq ((numC b.nums).length);obtain⟨m3,hm3⟩:=Zq a.texts.length;obtain⟨n3,hn3⟩:=Zq b.texts.length;rw[hm1] at A1 ca1 ⊢;rw[hn1] at B1 cc1 ⊢;rw[hm2] at A2 ca2 ⊢;rw[hn2] at B2 cc2 ⊢;rw[hm3] at A3 ca3 ⊢;rw[hn3] at B3 cc3 ⊢;have HL1:Hid (us.length=m1/\a.names.length=m1/\vs.length=n1/\b.names.length=n1):=⟨hm1,by rw[<-u1];exact hm1,hn1,by rw[<-v1];exact hn1⟩
 have HL2:Hid ((numC a.nums).length=m2/\a.nums.length=m2/\(numC b.nums).length=n2/\b.nums.length=n2):=⟨hm2,by rw[<-la2];exact hm2,hn2,by rw[<-lb2];exact hn2⟩
 have HL3:Hid (a.texts.length=m3/\b.texts.length=n3):=⟨hm3,hn3⟩;have HU:=Hd u3;have HV:=Hd v3;have NA:=Hd na;have NB':=Hd nb;have z1:(m1:Int)<=1000:=by have:=na.names.1;omega
 have z2:(n1:Int)<=1000:=by have:=nb.names.1;omega
 have z3:(m2:Int)<=1000:=by have:=na.nums.1;omega
 have z4:(n2:Int)<=1000:=by have:=nb.nums.1;omega
 have z5:(m3:Int)<=1000:=by have:=na.texts;omega
 have z6:(n3:Int)<=1000:=by have:=nb.texts;omega
 unfold maxLen at cb1 cd1 cb2 cd2;obtain⟨ta,hta⟩:=Zq a.type;obtain⟨tb,htb⟩:=Zq b.type;have hcd:Rc.cmpD a b=Rc.orI (Nm.sgn ta tb) (Rc.orI (Rc.row Nm.cmp a.names b.names) (Rc.orI (Rc.row (fun x y:Nat=>Nm.sgn x y) a.nums b.nums) (Rc.orI (Rc.row Lib.compareBytes a.texts b.texts) (Lib.compareBytes a.raw b.raw)))):=by rw[<-hta,<-htb];rfl
 rw[hta,htb];obtain⟨W0,hW0⟩:=Zq ((w.alloc (.cells #[.int .i64 ta,.slice pa1 m1 qa1,.slice pa2 m2 qa2,.slice pa3 m3 qa3,.slice pa4 m4 qa4] 117)).alloc (.cells #[.int .i64 tb,.slice pb1 n1 qb1,.slice pb2 n2 qb2,.slice pb3 n3 qb3,.slice pb4 n4 qb4] 117));have hb0:Below w.heap.size w W0:=by rw[<-hW0];exact (Zr).alloc (by simp) _
 have HBX:Hid (∀W',Below W0.heap.size W0 W'->Bx5 w.heap.size (.int .i64 ta) (.slice pa1 m1 qa1) (.slice pa2 m2 qa2) (.slice pa3 m3 qa3) (.slice pa4 m4 qa4) W'/\Bx5 (w.heap.size+1) (.int .i64 tb) (.slice pb1 n1 qb1) (.slice pb2 n2 qb2) (.slice pb3 n3 qb3) (.slice pb4 n4 qb4) W'):=fun W' hW=>by
  have h1:W0.heap[w.heap.size]? = some (.cells #[.int .i64 ta,.slice pa1 m1 qa1,.slice pa2 m2 qa2,.slice pa3 m3 qa3,.slice pa4 m4 qa4] 117 (0,0)):=by
   rw[<-hW0];exact (two_boxes w _ _ _ _).1
  have h2:W0.heap[w.heap.size+1]? = some (.cells #[.int .i64 tb,.slice pb1 n1 qb1,.slice pb2 n2 qb2,.slice pb3 n3 qb3,.slice pb4 n4 qb4] 117 (0,0)):=by
   rw[<-hW0];exact (two_boxes w _ _ _ _).2
  exact⟨(Bx5.of h1).below hW,(Bx5.of h2).below hW⟩
 have HB0:=Hd hb0;have HW0:=Hd hW0;have HM4:Hid (a.raw.length=m4/\b.raw.length=n4):=⟨by rw[<-hm4'];simp,by rw[<-hn4'];simp⟩
 clear hm1 hn1 hm2 hn2 hm3 hn3 hm4 hn4 hm4' hn4' u1 u2 u3 v1 v2 v3 a2 a3 a4 b2 b3 b4 na nb hta htb hb0 hW0 la2 lb2;by_cases ht:ta=tb
 case neg =>
  have HF:Hid (Rc.cmpD a b=Nm.sgn ta tb):=by
   show _=_;rw[hcd];refine Rc.orI_left (fun h=>ht ?_)
   exact Rc.sgn_zero h
  clear hcd;have h1:(ta != tb)=true:=by simp[ht]
  refine (zF (n:=0)).1 ?_;refine callsIn_of_wp Tryz.func102 rfl trivial ?_ rfl;simp only[Tryz.ntmps102,Zo,Ze,Zg,Nat.reduceAdd,Nat.reduceSub,Zi,Zj,Zk,Zl,Zm,Zp];gi_wp2_with (gi_at_call 124;refine (callsIn_wide.2 (apart_any _ _ _)).mono ?_;rintro e w1 ⟨rfl,rfl⟩)
  go_ret
  exact⟨by rw[HF.out];rfl,by rw[HW0.out];exact HB0.out⟩
 case pos =>
  subst ht;have HC:Hid (Rc.cmpD a b=Rc.orI (Rc.row Nm.cmp a.names b.names) (Rc.orI (Rc.row (fun x y:Nat=>Nm.sgn x y) a.nums b.nums) (Rc.orI (Rc.row Lib.compareBytes a.texts b.texts) (Lib.compareBytes a.raw b.raw)))):=by
   show _=_;rw[hcd,show Nm.sgn ta ta=0 by unfold Nm.sgn;simp,Rc.orI_right]
  clear hcd;refine (zF (n:=0)).1 ?_;refine callsIn_of_wp Tryz.func102 rfl trivial ?_ rfl;simp only[Tryz.ntmps102,Zo,Ze,Zg,Nat.reduceAdd,Nat.reduceSub,Zi,Zj,Zk,Zl,Zm,Zp];gi_wp2_with fail
  rw[HW0.out];clear HW0
  gi_loopw [5,6] (fun v5 _ W=>∃k:Nat,Hid (k<=m1/\k<=n1/\Rc.row Nm.cmp a.names b.names=Rc.row Nm.cmp (a.names.drop k) (b.names.drop k))/\v5=.int .i64 k/\Below W0.heap.size W0 W) (fun v5 _ _=>m1-(intOf v5).toNat)
  case atStart=>exact⟨0,⟨Nat.zero_le _,Nat.zero_le _,rfl⟩,rfl,Below.refl _ _⟩
  case round =>
   obtain⟨k,HK,rfl,hb⟩:=hrel;obtain⟨⟨x0,x1,x2,x3,x4⟩,y0,y1,y2,y3,y4⟩:=HBX.out _ hb;have HBL:=Hd hb;by_cases hlt:k<m1/\k<n1
   ·obtain⟨hl1,hl2⟩:=hlt
    have hz1:(k:Int)<(m1:Int):=by omega
    have hz2:(k:Int)<(n1:Int):=by omega
    have ka:k<a.names.length:=by rw[HL1.out.2.1];exact hl1
    have kb:k<b.names.length:=by rw[HL1.out.2.2.2];exact hl2
    have HST:=Hd (Rc.row_step (f:=Nm.cmp) ka kb);obtain⟨z,hz⟩:=Zq (Nm.cmp a.names[k] b.names[k]);have kua:k<us.length:=by rw[HL1.out.1];exact hl1
    have kvb:k<vs.length:=by rw[HL1.out.2.2.1];exact hl2
    obtain⟨ga,rfl,e1⟩:=A1.out.cells _ (Z5 HB0.out hb) k kua;obtain⟨gb,rfl,e2⟩:=B1.out.cells _ (Z5 HB0.out hb) k kvb;have hra:=HU.out k kua ka;have hrb:=HV.out k kvb kb;obtain⟨ua,hua⟩:=Zq (us[k]);obtain⟨ub,hub⟩:=Zq (vs[k]);rw[hua] at e1 hra;rw[hub] at e2 hrb;obtain⟨oa,ca,rfl,_,_⟩:=hra.form;obtain⟨ob,cb,rfl,_,_⟩:=hrb.form;have HCM:=Hd (fun W' (hW:Below w.heap.size w W')=>zD _ _ a.names[k] b.names[k] W' (hra.below hW) (hrb.below hW) (NA.out.names.2 _ (List.getElem_mem ka)) (NB'.out.names.2 _ (List.getElem_mem kb)))
    rw[hz] at HCM;obtain⟨sa,hsa⟩:=Zq (a.names[k].length);obtain⟨sb,hsb⟩:=Zq (b.names[k].length);rw[hsa] at e1 HCM;rw[hsb] at e2 HCM;obtain⟨ea,hea⟩:=Zq (ga.add k);obtain⟨eb,heb⟩:=Zq (gb.add k);rw[hea] at e1;rw[heb] at e2;have HZ:=Hd hz;clear hra hrb hua hub hsa hsb hz hb x0 x2 x3 x4 y0 y2 y3 y4;gi_wp2_with fail
    refine Z8 (List.range 11) (fun w'=>w'.cell? ⟨w.heap.size,1,none⟩=some (.slice (some ga) m1 qa1)/\w'.cell? ⟨w.heap.size+1,1,none⟩=some (.slice (some gb) n1 qb1)/\w'.cell? ea=some (.slice oa sa ca)/\w'.cell? eb=some (.slice ob sb cb)) 12 rfl (by kernel_rfl) ?_
    intro wa hwa;have hS:wa.cell? ⟨w.heap.size,1,none⟩=some (.slice (some ga) m1 qa1)/\wa.cell? ⟨w.heap.size+1,1,none⟩=some (.slice (some gb) n1 qb1)/\wa.cell? ea=some (.slice oa sa ca)/\wa.cell? eb=some (.slice ob sb cb):=by subst hwa;exact⟨x1,y1,e1,e2⟩
    have HBA:Hid (Below W0.heap.size W0 wa):=by subst hwa;exact HBL.out.drew
    clear hwa x1 y1 e1 e2;refine tA 0 hS ?_;refine tA 1 hS ?_;refine tA 2 hS ?_;refine tA 3 hS ?_;refine tA 4 hS ?_;refine tA 5 hS ?_;refine tA 6 hS ?_;refine tA 7 hS ?_;simp only[Act.put,Za,Zd,Zc];refine tA 8 hS ?_;refine tA 9 hS ?_;simp only[Act.put,Za,Zd,Zc];refine oneH 10 (by rfl) (by kernel_rfl) (fun K hK=>?_)
    gi_wp2_with (gi_at_call 101;refine (callsIn_wide.2 (HCM.out wa (Z5 HB0.out HBA.out))).mono ?_;rintro e w1 ⟨rfl,b1⟩)
    refine hK _ _ (fun _=>⟨(b1.cell (zG hS.1)).trans hS.1,(b1.cell (zG hS.2.1)).trans hS.2.1,(b1.cell (zG hS.2.2.1)).trans hS.2.2.1,(b1.cell (zG hS.2.2.2)).trans hS.2.2.2⟩) ?_
    clear hK K hS;have HBB:=Hd (Z5 HBA.out b1);refine oneH 11 (by rfl) (by kernel_rfl) (fun K hK=>?_)
    gi_wp2_with fail
    refine hK _ _ (fun h=>absurd h (by decide)) ?_
    clear hK K b1 hea heb;refine Z9 (by kernel_rfl) ?_
    by_cases h0:z=0
    ·subst h0
     gi_wp2_with fail
     refine⟨⟨k+1,⟨hl1,hl2,?_⟩,by go_num,HBB.out⟩,by simp[intOf];omega⟩
     rw[HK.out.2.2,HST.out,if_neg (by rw[HZ.out];simp)]
    ·have h1:(z != 0)=true:=by simp[h0]
     gi_wp2_with fail
     go_ret
     refine⟨?_,Z5 HB0.out HBB.out⟩;rw[HC.out,HK.out.2.2,HST.out,if_pos (by rw[HZ.out];exact h0),HZ.out,Rc.orI_left h0];rfl
   ·have HEND:Hid (Rc.row Nm.cmp a.names b.names=Nm.sgn ((m1:Int)-(n1:Int)) 0):=by
     show _=_;have h1:=HK.out;rw[h1.2.2,Rc.row_end (by rw[HL1.out.2.1];exact h1.1) (by rw[HL1.out.2.2.2];exact h1.2.1) (by rw[HL1.out.2.1,HL1.out.2.2.2];omega),HL1.out.2.1,HL1.out.2.2.2]
    have hw:IntKind.i64.wrap ((m1:Int)-(n1:Int))=(m1:Int)-(n1:Int):=IntWalk.i64_in _ (by omega)
    by_cases hmn:m1=n1
    ·subst hmn
     have hk:k=m1:=by have h1:=HK.out;omega
     have hz1:¬(k:Int)<(m1:Int):=by omega
     have HZ0:Hid (Rc.row Nm.cmp a.names b.names=0):=by show _=_;rw[HEND.out,Int.sub_self];rfl
     replace HC:=Hd (HC.out.trans (by rw[HZ0.out,Rc.orI_right]))
     have HBL2:=Hd HBL.out;clear hb hlt hw hk;gi_wp2_with fail
     clear x0 x1 x2 x3 x4 y0 y1 y2 y3 y4
     gi_loopw [7] (fun v7 W=>∃k:Nat,Hid (k<=m2/\k<=n2/\Rc.row (fun x y:Nat=>Nm.sgn x y) a.nums b.nums=Rc.row (fun x y:Nat=>Nm.sgn x y) (a.nums.drop k) (b.nums.drop k))/\v7=.int .i64 k/\Below W0.heap.size W0 W) (fun v7 _=>m2-(intOf v7).toNat)
     case atStart=>exact⟨0,⟨Nat.zero_le _,Nat.zero_le _,rfl⟩,rfl,HBL2.out⟩
     case round =>
      obtain⟨k,HK,rfl,hb⟩:=hrel;obtain⟨⟨x0,x1,x2,x3,x4⟩,y0,y1,y2,y3,y4⟩:=HBX.out _ hb;have HBL:=Hd hb;by_cases hlt:k<m2/\k<n2
      ·obtain⟨hl1,hl2⟩:=hlt
       have hz1:(k:Int)<(m2:Int):=by omega
       have hz2:(k:Int)<(n2:Int):=by omega
       have ka:k<a.nums.length:=by rw[HL2.out.2.1];exact hl1
       have kb:k<b.nums.length:=by rw[HL2.out.2.2.2];exact hl2
       have HST:=Hd (Rc.row_step (f:=(fun x y:Nat=>Nm.sgn x y)) ka kb)
       obtain⟨z,hz⟩:∃z,Nm.sgn (a.nums[k]:Int) (b.nums[k]:Int)=z:=⟨_,rfl⟩;have kua:k<(numC a.nums).length:=by rw[HL2.out.1];exact hl1
       have kvb:k<(numC b.nums).length:=by rw[HL2.out.2.2.1];exact hl2
       obtain⟨ga,rfl,e1⟩:=A2.out.cells _ (Z5 HB0.out hb) k kua;obtain⟨gb,rfl,e2⟩:=B2.out.cells _ (Z5 HB0.out hb) k kvb;simp only[numC,List.getElem_map] at e1 e2;have la:a.nums[k]<4294967296:=NA.out.nums.2 _ (List.getElem_mem ka);have lb:b.nums[k]<4294967296:=NB'.out.nums.2 _ (List.getElem_mem kb);obtain⟨ua,hua⟩:=Zq (a.nums[k]);obtain⟨ub,hub⟩:=Zq (b.nums[k]);rw[hua] at e1 la hz;rw[hub] at e2 lb hz;have hsb:=Nm.sgn_sub (ua:Int) (ub:Int);rw[hz] at hsb;have HSB:=Hd hsb;obtain⟨ea,hea⟩:=Zq (ga.add k);obtain⟨eb,heb⟩:=Zq (gb.add k);rw[hea] at e1;rw[heb] at e2;have HZ:=Hd (And.intro hz (And.intro hua hub));have laz:(ua:Int)<4294967296:=by omega
       have lbz:(ub:Int)<4294967296:=by omega
       clear hua hub hz hsb hb x0 x1 x3 x4 y0 y1 y3 y4;gi_wp2_with fail
       refine Z8 (List.range 11) (fun w'=>w'.cell? ⟨w.heap.size,2,none⟩=some (.slice (some ga) m2 qa2)/\w'.cell? ⟨w.heap.size+1,2,none⟩=some (.slice (some gb) n2 qb2)/\w'.cell? ea=some (.int .u32 (ua:Int))/\w'.cell? eb=some (.int .u32 (ub:Int))) 11 rfl (by kernel_rfl) ?_
       intro wa hwa;have hS:wa.cell? ⟨w.heap.size,2,none⟩=some (.slice (some ga) m2 qa2)/\wa.cell? ⟨w.heap.size+1,2,none⟩=some (.slice (some gb) n2 qb2)/\wa.cell? ea=some (.int .u32 (ua:Int))/\wa.cell? eb=some (.int .u32 (ub:Int)):=by subst hwa;exact⟨x2,y2,e1,e2⟩
       have HBA:Hid (Below W0.heap.size W0 wa):=by subst hwa;exact HBL.out.drew
       clear hwa x2 y2 e1 e2;by_cases h0:ua=ub
       ·subst h0
        refine tA 0 hS ?_;refine tA 1 hS ?_;refine tA 2 hS ?_;refine tA 3 hS ?_;refine tA 4 hS ?_;refine tA 5 hS ?_;refine tA 6 hS ?_;refine tA 7 hS ?_;simp only[Act.put,Za,Zd,Zc];refine tA 8 hS ?_;refine tA 9 hS ?_;refine tA 10 hS ?_;simp only[Act.put,Za,Zd,Zc];refine Z9 (by kernel_rfl) ?_
        gi_wp2_with fail
        refine⟨⟨k+1,⟨hl1,hl2,?_⟩,by go_num,HBA.out⟩,by simp[intOf];omega⟩
        rw[HK.out.2.2,HST.out,if_neg (by rw[HZ.out.2.1,HZ.out.2.2];unfold Nm.sgn;simp)]
       ·have h1:((ua:Int) != (ub:Int))=true:=by simp;omega
        have h2:z≠0:=fun e=>h0 (by have:=Rc.sgn_zero (HZ.out.1.trans e);omega)
        refine tA 0 hS ?_;refine tA 1 hS ?_;refine tA 2 hS ?_;refine tA 3 hS ?_;refine tA 4 hS ?_;refine tA 5 hS ?_;refine tA 6 hS ?_;refine tA 7 hS ?_;simp only[Act.put,Za,Zd,Zc];refine tA 8 hS ?_;refine tA 9 hS ?_;refine tA 10 hS ?_;simp only[Act.put,Za,Zd,Zc];refine Z9 (by kernel_rfl) ?_
        gi_wp2_with fail
        refine Z8 (List.range 14) (fun w'=>w'.cell? ⟨w.heap.size,2,none⟩=some (.slice (some ga) m2 qa2)/\w'.cell? ⟨w.heap.size+1,2,none⟩=some (.slice (some gb) n2 qb2)/\w'.cell? ea=some (.int .u32 (ua:Int))/\w'.cell? eb=some (.int .u32 (ub:Int))) 15 rfl (by kernel_rfl) ?_
        intro wb hwb;replace hS:wb.cell? ⟨w.heap.size,2,none⟩=some (.slice (some ga) m2 qa2)/\wb.cell? ⟨w.heap.size+1,2,none⟩=some (.slice (some gb) n2 qb2)/\wb.cell? ea=some (.int .u32 (ua:Int))/\wb.cell? eb=some (.int .u32 (ub:Int)):=by subst hwb;exact hS
        have HBB:Hid (Below W0.heap.size W0 wb):=by subst hwb;exact HBA.out.drew
        clear hwb;refine tA 0 hS ?_;refine tA 1 hS ?_;refine tA 2 hS ?_;refine tA 3 hS ?_;refine tA 4 hS ?_;refine tA 5 hS ?_;refine tA 6 hS ?_;refine tA 7 hS ?_;simp only[Act.put,Za,Zd,Zc];refine tA 8 hS ?_;refine tA 9 hS ?_;refine tA 10 hS ?_;refine tA 11 hS ?_;refine tA 12 hS ?_;simp only[Act.put,Za,Zd,Zc];refine oneH 13 (by rfl) (by kernel_rfl) (fun K hK=>?_)
        gi_wp2_with (gi_at_call 123;refine (callsIn_wide.2 (sign_any _ _)).mono ?_;rintro e w1 ⟨rfl,rfl⟩;rw[<-HSB.out])
        refine hK _ _ (fun _=>hS) ?_
        clear hK K hS;refine oneH 14 (by rfl) (by kernel_rfl) (fun K hK=>?_)
        gi_wp2_with fail
        refine hK _ _ (fun h=>absurd h (by decide)) ?_
        clear hK K hea heb;refine Z9 (by kernel_rfl) ?_
        gi_wp2_with fail
        go_ret
        refine⟨?_,Z5 HB0.out HBB.out⟩;rw[HC.out,HK.out.2.2,HST.out,HZ.out.2.1,HZ.out.2.2,if_pos (by rw[HZ.out.1];exact h2),HZ.out.1,Rc.orI_left h2];rfl
      ·have HEND:Hid (Rc.row (fun x y:Nat=>Nm.sgn x y) a.nums b.nums=Nm.sgn ((m2:Int)-(n2:Int)) 0):=by
        show _=_;have h1:=HK.out;rw[h1.2.2,Rc.row_end (by rw[HL2.out.2.1];exact h1.1) (by rw[HL2.out.2.2.2];exact h1.2.1) (by rw[HL2.out.2.1,HL2.out.2.2.2];omega),HL2.out.2.1,HL2.out.2.2.2]
       have hw:IntKind.i64.wrap ((m2:Int)-(n2:Int))=(m2:Int)-(n2:Int):=IntWalk.i64_in _ (by omega)
       by_cases hmn:m2=n2
       ·subst hmn
        have hk:k=m2:=by have h1:=HK.out;omega
        have hz1:¬(k:Int)<(m2:Int):=by omega
        have HZ0:Hid (Rc.row (fun x y:Nat=>Nm.sgn x y) a.nums b.nums=0):=by show _=_;rw[HEND.out,Int.sub_self];rfl
        replace HC:=Hd (HC.out.trans (by rw[HZ0.out,Rc.orI_right]))
        have HBL3:=Hd HBL.out;clear hb hlt hw hk;gi_wp2_with fail
        clear x0 x1 x2 x3 x4 y0 y1 y2 y3 y4
        gi_loopw [8,9] (fun v8 _ W=>∃k:Nat,Hid (k<=m3/\k<=n3/\Rc.row Lib.compareBytes a.texts b.texts=Rc.row Lib.compareBytes (a.texts.drop k) (b.texts.drop k))/\v8=.int .i64 k/\Below W0.heap.size W0 W) (fun v8 _ _=>m3-(intOf v8).toNat)
        case atStart=>exact⟨0,⟨Nat.zero_le _,Nat.zero_le _,rfl⟩,rfl,HBL3.out⟩
        case round =>
         obtain⟨k,HK,rfl,hb⟩:=hrel;obtain⟨⟨x0,x1,x2,x3,x4⟩,y0,y1,y2,y3,y4⟩:=HBX.out _ hb;have HBL:=Hd hb;by_cases hlt:k<m3/\k<n3
         ·obtain⟨hl1,hl2⟩:=hlt
          have hz1:(k:Int)<(m3:Int):=by omega
          have hz2:(k:Int)<(n3:Int):=by omega
          have ka:k<a.texts.length:=by rw[HL3.out.1];exact hl1
          have kb:k<b.texts.length:=by rw[HL3.out.2];exact hl2
          have HST:=Hd (Rc.row_step (f:=Lib.compareBytes) ka kb);obtain⟨z,hz⟩:=Zq (Lib.compareBytes a.texts[k] b.texts[k]);obtain⟨ga,rfl,e1⟩:=A3.out.sl.cells _ (Z5 HB0.out hb) k (by simpa using ka)
          obtain⟨gb,rfl,e2⟩:=B3.out.sl.cells _ (Z5 HB0.out hb) k (by simpa using kb)
          simp only[List.getElem_map] at e1 e2;obtain⟨ua,hua⟩:=Zq (a.texts[k]);obtain⟨ub,hub⟩:=Zq (b.texts[k]);rw[hua] at e1 hz;rw[hub] at e2 hz;obtain⟨ea,hea⟩:=Zq (ga.add k);obtain⟨eb,heb⟩:=Zq (gb.add k);rw[hea] at e1;rw[heb] at e2;have HZ:=Hd (And.intro hz (And.intro hua hub));clear hua hub hz hb x0 x1 x2 x4 y0 y1 y2 y4;gi_wp2_with fail
          refine Z8 (List.range 11) (fun w'=>w'.cell? ⟨w.heap.size,3,none⟩=some (.slice (some ga) m3 qa3)/\w'.cell? ⟨w.heap.size+1,3,none⟩=some (.slice (some gb) n3 qb3)/\w'.cell? ea=some (S ua)/\w'.cell? eb=some (S ub)) 12 rfl (by kernel_rfl) ?_
          intro wa hwa;have hS:wa.cell? ⟨w.heap.size,3,none⟩=some (.slice (some ga) m3 qa3)/\wa.cell? ⟨w.heap.size+1,3,none⟩=some (.slice (some gb) n3 qb3)/\wa.cell? ea=some (S ua)/\wa.cell? eb=some (S ub):=by subst hwa;exact⟨x3,y3,e1,e2⟩
          have HBA:Hid (Below W0.heap.size W0 wa):=by subst hwa;exact HBL.out.drew
          clear hwa x3 y3 e1 e2;refine tA 0 hS ?_;refine tA 1 hS ?_;refine tA 2 hS ?_;refine tA 3 hS ?_;refine tA 4 hS ?_;refine tA 5 hS ?_;refine tA 6 hS ?_;refine tA 7 hS ?_;simp only[Act.put,Za,Zd,Zc];refine tA 8 hS ?_;refine tA 9 hS ?_;simp only[Act.put,Za,Zd,Zc];refine oneH 10 (by rfl) (by kernel_rfl) (fun K hK=>?_)
          gi_wp2_with (gi_at_call 125;refine (callsIn_wide.2 (refOrder_any ua ub _)).mono ?_;rintro e w1 ⟨rfl,rfl⟩;rw[HZ.out.1])
          refine hK _ _ (fun _=>hS) ?_
          clear hK K hS;refine oneH 11 (by rfl) (by kernel_rfl) (fun K hK=>?_)
          gi_wp2_with fail
          refine hK _ _ (fun h=>absurd h (by decide)) ?_
          clear hK K hea heb;refine Z9 (by kernel_rfl) ?_
          by_cases h0:z=0
          ·subst h0
           gi_wp2_with fail
           refine⟨⟨k+1,⟨hl1,hl2,?_⟩,by go_num,HBA.out⟩,by simp[intOf];omega⟩
           rw[HK.out.2.2,HST.out,HZ.out.2.1,HZ.out.2.2,if_neg (by rw[HZ.out.1];simp)]
          ·have h1:(z != 0)=true:=by simp[h0]
           gi_wp2_with fail
           go_ret
           refine⟨?_,Z5 HB0.out HBA.out⟩;rw[HC.out,HK.out.2.2,HST.out,HZ.out.2.1,HZ.out.2.2,if_pos (by rw[HZ.out.1];exact h0),HZ.out.1,Rc.orI_left h0];rfl
         ·have HEND:Hid (Rc.row Lib.compareBytes a.texts b.texts=Nm.sgn ((m3:Int)-(n3:Int)) 0):=by
           show _=_;have h1:=HK.out;rw[h1.2.2,Rc.row_end (by rw[HL3.out.1];exact h1.1) (by rw[HL3.out.2];exact h1.2.1) (by rw[HL3.out.1,HL3.out.2];omega),HL3.out.1,HL3.out.2]
          have hw:IntKind.i64.wrap ((m3:Int)-(n3:Int))=(m3:Int)-(n3:Int):=IntWalk.i64_in _ (by omega)
          by_cases hmn:m3=n3
          ·subst hmn
           have hk:k=m3:=by have h1:=HK.out;omega
           have hz1:¬(k:Int)<(m3:Int):=by omega
           have HZ0:Hid (Rc.row Lib.compareBytes a.texts b.texts=0):=by show _=_;rw[HEND.out,Int.sub_self];rfl
           replace HC:=Hd (HC.out.trans (by rw[HZ0.out,Rc.orI_right]))
           have HBL4:=Hd HBL.out;clear hb hlt hw hk;have HCA:=Hd (conv_bt (A4.out.below (Z5 HB0.out HBL.out)));have HCB:=Hd (conv_bt (B4.out.below (Z5 HB0.out HBL.out)));have hca:=HCA.out;have hcb:=HCB.out;gi_wp2_with (gi_at_call 125;refine (callsIn_wide.2 (refOrder_any a.raw b.raw _)).mono ?_;rintro e w1 ⟨rfl,rfl⟩;rw[<-HC.out])
           go_ret
           exact⟨rfl,Z5 HB0.out HBL.out⟩
          ·have HNE:=Hd (sgn_ne hmn)
           have h1:((m3:Int) != (n3:Int))=true:=by simp;omega
           have h2:Nm.sgn ((m3:Int)-(n3:Int)) 0≠0:=sgn_ne hmn;have HFIN:Hid (Rc.cmpD a b=Nm.sgn ((m3:Int)-(n3:Int)) 0):=by show _=_;rw[HC.out,HEND.out,Rc.orI_left h2]
           clear hb h2;by_cases hl:k<m3
           ·have hz1:(k:Int)<(m3:Int):=by omega
            have hz2:¬(k:Int)<(n3:Int):=by omega
            gi_wp2_with (gi_at_call 123;refine (callsIn_wide.2 (sign_any _ _)).mono ?_;rintro e w1 ⟨rfl,rfl⟩;rw[<-HFIN.out])
            go_ret
            exact⟨rfl,Z5 HB0.out HBL.out⟩
           ·have hz1:¬(k:Int)<(m3:Int):=by omega
            gi_wp2_with (gi_at_call 123;refine (callsIn_wide.2 (sign_any _ _)).mono ?_;rintro e w1 ⟨rfl,rfl⟩;rw[<-HFIN.out])
            go_ret
            exact⟨rfl,Z5 HB0.out HBL.out⟩
       ·have HNE:=Hd (sgn_ne hmn)
        have h1:((m2:Int) != (n2:Int))=true:=by simp;omega
        have h2:Nm.sgn ((m2:Int)-(n2:Int)) 0≠0:=sgn_ne hmn;have HFIN:Hid (Rc.cmpD a b=Nm.sgn ((m2:Int)-(n2:Int)) 0):=by show _=_;rw[HC.out,HEND.out,Rc.orI_left h2]
        clear hb h2;by_cases hl:k<m2
        ·have hz1:(k:Int)<(m2:Int):=by omega
         have hz2:¬(k:Int)<(n2:Int):=by omega
         gi_wp2_with (gi_at_call 123;refine (callsIn_wide.2 (sign_any _ _)).mono ?_;rintro e w1 ⟨rfl,rfl⟩;rw[<-HFIN.out])
         go_ret
         exact⟨rfl,Z5 HB0.out HBL.out⟩
        ·have hz1:¬(k:Int)<(m2:Int):=by omega
         gi_wp2_with (gi_at_call 123;refine (callsIn_wide.2 (sign_any _ _)).mono ?_;rintro e w1 ⟨rfl,rfl⟩;rw[<-HFIN.out])
         go_ret
         exact⟨rfl,Z5 HB0.out HBL.out⟩
    ·have HNE:=Hd (sgn_ne hmn)
     have h1:((m1:Int) != (n1:Int))=true:=by simp;omega
     have h2:Nm.sgn ((m1:Int)-(n1:Int)) 0≠0:=sgn_ne hmn;have HFIN:Hid (Rc.cmpD a b=Nm.sgn ((m1:Int)-(n1:Int)) 0):=by show _=_;rw[HC.out,HEND.out,Rc.orI_left h2]
     clear hb h2;by_cases hl:k<m1
     ·have hz1:(k:Int)<(m1:Int):=by omega
      have hz2:¬(k:Int)<(n1:Int):=by omega
      gi_wp2_with (gi_at_call 123;refine (callsIn_wide.2 (sign_any _ _)).mono ?_;rintro e w1 ⟨rfl,rfl⟩;rw[<-HFIN.out])
      go_ret
      exact⟨rfl,Z5 HB0.out HBL.out⟩
     ·have hz1:¬(k:Int)<(m1:Int):=by omega
      gi_wp2_with (gi_at_call 123;refine (callsIn_wide.2 (sign_any _ _)).mono ?_;rintro e w1 ⟨rfl,rfl⟩;rw[<-HFIN.out])
      go_ret
      exact⟨rfl,Z5 HB0.out HBL.out⟩
end
end Go.Proofs.YtgmbefolgppmdaaGreat
