/- Zones: is there a record such that .. -/
import Derived.Test.YtgmbefolgppmdaaGreatLRcG
import Derived.Test.YtgmbefolgppmdaaGreatLAli
namespace Go.Proofs.YtgmbefolgppmdaaGreat
open Go.RowKit Go.Shelf Go.Sort
set_option maxRecDepth 100000
section
def Zn.firstAt (p:Rc.PRec->Bool):List Rc.PRec->Nat->Int
 | [],_=>-1
 | x::l,k=>if p x then (k:Int) else Zn.firstAt p l (k+1)
theorem Zn.firstAt_any (p:Rc.PRec->Bool):∀(l:List Rc.PRec) (k:Nat),decide (0<=Zn.firstAt p l k)=l.any p
 | [],_=>by simp[Zn.firstAt]
 | x::l,k=>by
  rw[Zn.firstAt,List.any_cons];cases h:p x with
  | true=>simp
  | false=>simpa using Zn.firstAt_any p l (k+1)
set_option maxHeartbeats 1000000 in
theorem indexRec_any {w w0:World} (v:Value) (l:List (El w)) (p:Rc.PRec->Bool) (gf:Nat) (cb:Array Value) (eg:∀args w,(callFunc gf args).run Tryz.prog w=.ok (.enter gf args) w) (_hb0:Below w.heap.size w w0) (hv:RecsRd v (l.map (·.1)) w0) (na:l.length<=1000)
  (hcb:∀wr,Below w0.heap.size w0 wr->∀x∈l,Calls Tryz.prog gf (#[.agg (encE x).toArray]++cb) wr (Gives (.bool (p x.1.2)) wr)) :
  Calls Tryz.prog 109 #[v,.func (.func gf) #[] cb] w0 (Gives (.int .i64 (Zn.firstAt p (plE l) 0)) w0):=by
 obtain⟨o,cap,rfl⟩:∃o cap,v=.slice o l.length cap:=by obtain⟨_,o,cap,h,_⟩:=hv;exact⟨o,cap,by rw[h,Zf]⟩
 have HV:=Hd hv.el;have HCB:=Hd hcb;have na':(l.length:Int)<=1000:=by omega
 clear hv hcb na
 go_enter Tryz.func109,Tryz.ntmps109
 go_wp2
 go_loopw [8] (fun i wr=>∃k:Nat,Hid (k<=l.length/\Zn.firstAt p (plE l) 0=Zn.firstAt p (plE (l.drop k)) k)/\i=.int .i64 k/\Below w0.heap.size w0 wr) (fun i _=>l.length-(intOf i).toNat)
 case atStart=>exact⟨0,⟨by omega,rfl⟩,rfl,Below.refl _ _⟩
 case round =>
  obtain⟨k,hto,rfl,hb⟩:=hrel;by_cases hlt:k<l.length
  ·have hltz:(k:Int)<(l.length:Int):=by omega
   obtain⟨x,hx⟩:=Zq (l[k]);obtain⟨p0,n0,q0,p1,n1,q1,p2,n2,q2,p3,n3,q3,p4,n4,q4,ex⟩:=x.cells;obtain⟨ga,rfl,e0,e1,e2,e3,e4,e5,e6⟩:=HV.out _ hb k hlt _ _ _ _ _ _ _ (by rw[hx];exact ex)
   have HC:=Hd (HCB.out _ hb x (by rw[<-hx];exact List.getElem_mem _))
   have HZ:Hid (Zn.firstAt p (plE (l.drop k)) k=if p x.1.2 then (k:Int) else Zn.firstAt p (plE (l.drop (k+1))) (k+1)):=by
    show _=_;rw[Zy hlt,hx];rfl
   have HE:=Hd ex;obtain⟨bz,hz⟩:=Zq (p x.1.2);have HSZ:=Hd hz;clear hx ex hz HV;cases bz with
   | true =>
    go_wp2_with fail
    have hc:=HC.out;rw[HE.out] at hc;refine hc.mono ?_;rintro e w3 ⟨rfl,b3⟩;rw[HSZ.out];have hb3:=Hd (Z5 hb b3);clear b3 hc;go_wp2_with fail
    go_ret
    exact⟨by rw[hto.out.2,HZ.out,HSZ.out];rfl,hb3.out⟩
   | false =>
    go_wp2_with fail
    have hc:=HC.out;rw[HE.out] at hc;refine hc.mono ?_;rintro e w3 ⟨rfl,b3⟩;rw[HSZ.out];have hb3:=Hd (Z5 hb b3);clear b3 hc;go_wp2_with fail
    refine⟨⟨k+1,⟨hlt,?_⟩,by go_num,hb3.out⟩,by simp[intOf];omega⟩
    rw[hto.out.2,HZ.out,HSZ.out];rfl
  ·have hltz:¬((k:Int)<(l.length:Int)):=by omega
   have HF:Hid (Zn.firstAt p (plE l) 0=-1):=by show _=_;rw[hto.out.2,Zz (by omega)];rfl
   go_wp2
   go_ret
   exact⟨by rw[HF.out];rfl,hb⟩
set_option maxHeartbeats 1000000 in
theorem containsRec_any {w w0:World} (v:Value) (l:List (El w)) (p:Rc.PRec->Bool) (gf:Nat) (cb:Array Value) (eg:∀args w,(callFunc gf args).run Tryz.prog w=.ok (.enter gf args) w) (hb0:Below w.heap.size w w0) (hv:RecsRd v (l.map (·.1)) w0) (na:l.length<=1000)
  (hcb:∀wr,Below w0.heap.size w0 wr->∀x∈l,Calls Tryz.prog gf (#[.agg (encE x).toArray]++cb) wr (Gives (.bool (p x.1.2)) wr)) :
  Calls Tryz.prog 82 #[v,.func (.func gf) #[] cb] w0 (Gives (.bool ((plE l).any p)) w0):=by
 have HC:=Hd (indexRec_any v l p gf cb eg hb0 hv na hcb);have HF:=Hd (Zn.firstAt_any p (plE l) 0);clear hv hcb;obtain⟨z,hz⟩:=Zq (Zn.firstAt p (plE l) 0);have HZ:=Hd hz;clear hz
 go_enter Tryz.func82,Tryz.ntmps82
 go_wp2_with fail
 refine HC.out.mono ?_;rintro e w1 ⟨rfl,b1⟩;rw[HZ.out];go_wp2_with fail
 go_ret
 exact⟨by rw[<-HF.out,HZ.out];rfl,b1⟩
end
section
def El.up {w w':World} (hb:Below w.heap.size w w') (x:El w):El w':=⟨x.1,x.2.1.below hb,x.2.2⟩
theorem up_fst {w w':World} (hb:Below w.heap.size w w') (l:List (El w)):(l.map (El.up hb)).map (·.1)=l.map (·.1):=by simp[El.up,Function.comp_def]
theorem up_pl {w w':World} (hb:Below w.heap.size w w') (l:List (El w)):plE (l.map (El.up hb))=plE l:=by simp[plE,El.up,Function.comp_def]
theorem down_list {w w0:World} (l1:List (El w0)) (h:∀x∈l1,RecRd x.1.1 x.1.2 w):∃l':List (El w),l'.map (·.1)=l1.map (·.1)/\plE l'=plE l1/\l'.length=l1.length:=by
 induction l1 with
 | nil=>exact⟨[],rfl,rfl,rfl⟩
 | cons x l1 ih =>
  obtain⟨l',h1,h2,h3⟩:=ih (fun y hy=>h y (Zv _ hy))
  refine⟨⟨x.1,h x Zu,x.2.2⟩::l',by simp[h1],?_,by simp[h3]⟩
  simp only[plE,List.map_cons] at h2 ⊢;rw[h2]
end
section
set_option maxHeartbeats 1000000 in
theorem hasCb_any {w:World} (x:El w) (tp bp:Addr) (t:Int) (vn:Value) (n:List (List UInt8)) (wr:World) (hb:Below w.heap.size w wr) (ht:wr.cell? tp=some (.int .i64 t)) (hc:wr.cell? bp=some vn) (hn:Rd vn n wr) (nn:NB n) :
  Calls Tryz.prog 83 #[.agg (encE x).toArray,.pointer (some tp),.pointer (some bp)] wr (Gives (.bool ((x.1.2.type == t)&&Nm.same x.1.2.owner n)) wr):=by
 obtain⟨vo,ds,h0,ho,an,am,at',ar,h1,_⟩:=x.2.1;have ex:encE x=[vo,.int .u32 (x.1.2.ttl:Int),.int .i64 x.1.2.type,an,am,at',ar]:=by show x.1.1=_;rw[h0,h1]
 rw[ex];have HO:=Hd (ho.below hb);have HN:=Hd hn;have NO:=Hd x.2.2.owner;have hlt:=zG hc;have hlt2:=zG ht;have hc':∀o,(wr.alloc o).cell? bp=some vn:=fun o=>(((Below.refl wr.heap.size wr).alloc (Zh _) o).cell hlt).trans hc
 have ht':∀o,(wr.alloc o).cell? tp=some (.int .i64 t):=fun o=>(((Below.refl wr.heap.size wr).alloc (Zh _) o).cell hlt2).trans ht
 clear ho hn hb ex h0 h1;obtain⟨bz,hz⟩:=Zq ((x.1.2.type == t));rw[hz];cases bz with
 | true =>
  have h2:decide (x.1.2.type=t)=true:=by simpa using hz
  have h3:x.1.2.type=t:=by simpa using hz
  go_enter Tryz.func83,Tryz.ntmps83
  go_wp2_with fail
  refine (nSame_any _ _ _ _ _ (HO.out.below (Zr)) (HN.out.below (Zr)) NO.out nn).mono ?_;rintro e w1 ⟨rfl,b1⟩;have hb1:=((Below.refl wr.heap.size wr).alloc (Zh _) _).trans (b1.mono (by simp))
  go_wp2_with fail
  go_ret
  exact⟨by simp,hb1⟩
 | false =>
  have h2:decide (x.1.2.type=t)=false:=by simpa using hz
  go_enter Tryz.func83,Tryz.ntmps83
  go_wp2_with fail
  go_ret
  exact⟨by simp,Zr⟩
end
section
def Blk (b:Nat) (cs:Array Value) (t:TypeId) (W:World):Prop:=W.heap[b]? = some (.cells cs t (0,0))
theorem Blk.lt {b cs t W} (h:Blk b cs t W):b<W.heap.size:=(Array.getElem?_eq_some_iff.1 h).1
theorem Blk.below {b cs t} {W W':World} (h:Blk b cs t W) (hb:Below W.heap.size W W'):Blk b cs t W':=(hb.block b h.lt).trans h
theorem Blk.new (W:World) (cs:Array Value) (t:TypeId):Blk W.heap.size cs t (W.alloc (.cells cs t)):=World.alloc_heap_new W _
theorem Blk.alloc {b cs t W} (h:Blk b cs t W) (o:Obj):Blk b cs t (W.alloc o):=(Below.heap_alloc W o b h.lt).trans h
theorem Blk.cell {b cs t W} (h:Blk b cs t W) (i:Nat):W.cell? ⟨b,i,none⟩=cs[i]?:=by rw[cell_of_row W b i _ _ _ h]
theorem Blk.frozen {b cs t W} (h:Blk b cs t W) (i:Nat):W.frozen? ⟨b,i,none⟩=false:=by unfold Blk at h;simp[World.frozen?,h]
theorem eg_hasCb (args:Array Value) (w:World):(callFunc 83 args).run Tryz.prog w=.ok (.enter 83 args) w:=by simp[go_sem]
set_option maxHeartbeats 1000000 in
theorem zHas_any {w w0:World} (zo vr vn:Value) (l:List (El w)) (n:List (List UInt8)) (t:Int) (hb0:Below w.heap.size w w0) (hv:RecsRd vr (l.map (·.1)) w0) (na:l.length<=1000) (hn:Rd vn n w0) (nn:NB n) :
  Calls Tryz.prog 54 #[.agg #[zo,vr],vn,.int .i64 t] w0 (Gives (.bool (Zn.has (plE l) n t)) w0):=by
 obtain⟨on,cn,rfl,_,_⟩:=hn.form;obtain⟨ov,cv,rfl⟩:∃o cap,vr=.slice o l.length cap:=by obtain⟨_,o,cap,h,_⟩:=hv;exact⟨o,cap,by rw[h,Zf]⟩
 obtain⟨W3,hW3⟩:=Zq (((w0.alloc (.cells #[zo,.slice ov l.length cv] 54)).alloc (.cells #[.slice on n.length cn] 38)).alloc (.cells #[.int .i64 t] 3));have hbW:Below w0.heap.size w0 W3:=by
  subst hW3;exact ((Zr).alloc (by simp) _).alloc (by simp;omega) _
 have b0:Blk w0.heap.size #[zo,.slice ov l.length cv] 54 W3:=by
  subst hW3;exact ((Blk.new w0 _ _).alloc _).alloc _
 have b1:Blk (w0.heap.size+1) #[.slice on n.length cn] 38 W3:=by
  subst hW3;have:=(Blk.new (w0.alloc (.cells #[zo,.slice ov l.length cv] 54)) #[.slice on n.length cn] 38).alloc (.cells #[.int .i64 t] 3)
  rwa [World.size_alloc] at this
 have b2:Blk (w0.heap.size+1+1) #[.int .i64 t] 3 W3:=by
  subst hW3;have:=Blk.new ((w0.alloc (.cells #[zo,.slice ov l.length cv] 54)).alloc (.cells #[.slice on n.length cn] 38)) #[.int .i64 t] 3
  rwa [World.size_alloc,World.size_alloc] at this
 have HC:=Hd (containsRec_any (w0:=W3) (.slice ov l.length cv) l (fun r=>(r.type == t)&&Nm.same r.owner n) 83 #[.pointer (some ⟨w0.heap.size+1+1,0,none⟩),.pointer (some ⟨w0.heap.size+1,0,none⟩)] eg_hasCb (Z5 hb0 hbW) (hv.kept hbW) na
  (fun wr hwr x _=>hasCb_any x ⟨w0.heap.size+1+1,0,none⟩ ⟨w0.heap.size+1,0,none⟩ t _ n wr (Z5 (Z5 hb0 hbW) hwr) ((b2.below hwr).cell 0) ((b1.below hwr).cell 0) ((hn.below hbW).below hwr) nn))
 have HB:=Hd hbW;have c1:W3.cell? ⟨w0.heap.size,1,none⟩=some _:=b0.cell 1;clear hv hn nn hb0 hbW b1 b2
 go_enter Tryz.func54,Tryz.ntmps54
 go_wp2_with fail
 refine HC.out.mono ?_;rintro e w1 ⟨rfl,b1⟩;go_wp2_with fail
 go_ret
 exact⟨rfl,Z5 HB.out b1⟩
def keepS (S:Nat->Prop) (A B:World):Prop:=∀p:Addr,S p.block->B.cell? p=A.cell? p
theorem keepS.refl (S:Nat->Prop) (A:World):keepS S A A:=fun _ _=>rfl
theorem keepS.trans {S:Nat->Prop} {A B C:World} (h:keepS S A B) (k:keepS S B C):keepS S A C:=fun p hp=>(k p hp).trans (h p hp)
theorem keepS.put {S:Nat->Prop} {L:Nat} (hL:¬S L) (A:World) (o:Obj):keepS S A (A.putObj L o):=fun p hp=>World.cell?_of_block (World.putObj_heap_other (fun e=>hL (by rw[<-e];exact hp)))
theorem keepS.of_below {S:Nat->Prop} {K0:Nat} {A B:World} (h:Below K0 A B) (hS:∀b,S b->b<K0):keepS S A B:=fun p hp=>World.cell?_of_block (h.block p.block (hS _ hp))
theorem keepS.set {S:Nat->Prop} {b o:Nat} (hb:¬S b) (A:World) (u:Value):keepS S A (A.setCell ⟨b,o,none⟩ u):=fun p hp=>World.cell?_of_block (Below.heap_setCell _ _ _ _ (fun e=>hb (by have e:p.block=b:=e;rw[<-e];exact hp)))
abbrev keepB (K0:Nat) (A B:World):Prop:=keepS (fun b=>b<K0) A B
theorem keepB.refl (K0:Nat) (A:World):keepB K0 A A:=fun _ _=>rfl
theorem keepB.trans {K0:Nat} {A B C:World} (h:keepB K0 A B) (k:keepB K0 B C):keepB K0 A C:=fun p hp=>(k p hp).trans (h p hp)
theorem keepB.put {K0 L:Nat} (hL:K0<=L) (A:World) (o:Obj):keepB K0 A (A.putObj L o):=fun p hp=>World.cell?_of_block (World.putObj_heap_other (fun e=>by have:p.block<K0:=hp;omega))
theorem keepB.of_below {K0:Nat} {A B:World} (h:Below K0 A B):keepB K0 A B:=fun p hp=>World.cell?_of_block (h.block p.block hp)
theorem keepB.mono {K0 K1:Nat} {A B:World} (h:keepB K1 A B) (hk:K0<=K1):keepB K0 A B:=fun p hp=>h p (Nat.lt_of_lt_of_le hp hk)
theorem Rd.keepB {v l} {ws W:World} (h:Rd v l ws) (hk:keepB ws.heap.size ws W):Rd v l W:=h.kept fun p hp=>hk p hp
def dnY (ws:World) (n:List (List UInt8)) (k:Nat) (_:World) (v:Array Value) (k':Nat):Prop:=k=k'+1/\k'<=n.length/\∃o c,v=#[.slice o (n.length-k') c]/\Rd (.slice o (n.length-k') c) (n.drop k') ws
set_option maxHeartbeats 1000000 in
theorem down1_iter (Sk:Nat->Prop) (wn ws:World) (bn bz:Nat) (hsn:Sk bn) (hsz:Sk bz) (on oo:Option Addr) (cn co:Nat) (n o:List (List UInt8)) (hcn:ws.cell? ⟨bn,0,none⟩=some (.slice on n.length cn)) (hcz:ws.cell? ⟨bz,0,none⟩=some (.slice oo o.length co))
  (hn:Rd (.slice on n.length cn) n wn) (nn:n.length<=1000) (hle:o.length<=n.length) :
  Iter Tryz.prog 126 #[.pointer (some ⟨bn,0,none⟩),.pointer (some ⟨bz,0,none⟩)] (keepS Sk ws) (fun A B=>A=B) (keepS Sk) (dnY wn n) (n.length-o.length+1) (fun k=>k=0):=by
 intro l J Jx W hpre _ _ hY h0;refine callsIn_of_wp Tryz.func126 rfl trivial ?_ rfl;simp only[Tryz.ntmps126,Zo,Ze,Zg,Nat.reduceAdd,Nat.reduceSub,Zi,Zj,Zk,Zl,Zm,Zp];have hc1:W.cell? ⟨bn,0,none⟩=some _:=(hpre _ hsn).trans hcn;have hc2:W.cell? ⟨bz,0,none⟩=some _:=(hpre _ hsz).trans hcz;have HK:=Hd hpre;have HN:=Hd hn;have HCN:=Hd hcn;have HCZ:=Hd hcz;have n1:(n.length:Int)<=1000:=by omega
 have o1:(o.length:Int)<=n.length:=by omega
 obtain⟨_,_,e0,hcap,hcm,_⟩:=id hn;cases e0;unfold maxLen at hcm;clear hpre hn hcn hcz;gi_wp2
 gi_loopw [4] (fun p wr=>∃k:Nat,k<=n.length-o.length+1/\p=.int .i64 ((k:Int)-1)/\J k wr/\keepS Sk ws wr) (fun p _=>(intOf p+1).toNat)
 case atStart=>exact⟨n.length-o.length+1,Zh _,by go_num,h0,HK.out⟩
 case round =>
  obtain⟨k,hk,rfl,hJ,hkb⟩:=hrel;clear hc1 hc2;rcases k with _|k
  ·gi_wp2
   go_end0
   exact⟨⟨_,rfl⟩,.inl ⟨_,rfl,hJ⟩⟩
  ·have hix:(((k+1:Nat):Int)-1)=(k:Int):=by omega
   obtain⟨cm,hcm'⟩:∃c,cn=c:=⟨_,rfl⟩;have hc1:wr.cell? ⟨bn,0,none⟩=some (.slice on n.length cm):=by rw[<-hcm'];exact (hkb _ hsn).trans HCN.out
   have hkn:(k:Int)<=n.length:=by omega
   rw[hix];have HN':=HN.out;rw[hcm'] at HN';have HR0:=Hd (fun hc=>HN'.tail0 k (by omega) hc)
   have HR1:=Hd (HN'.tail k (by omega))
   have hcap2:n.length<=cm:=by omega
   have hcm2:cm<=2 ^ 63-1:=by omega
   clear hcm' HN';have HKB:=Hd hkb;clear hkb;gi_wp2_with fail
   ·obtain⟨fn,tmps,assign,body,hy,hR⟩:=hY (k+1) k _ wr hJ ⟨rfl,by omega,_,_,rfl,HR0.out (by assumption)⟩
    rw[hy];gi_wp2
    refine hR.mono ?_;rintro e W3 (⟨rfl,hJ3,hk3⟩|⟨rfl,hJx3⟩)
    ·have hkb3:=HKB.out.trans hk3
     gi_wp2
     go_roundw
     case rel=>exact⟨k,by omega,by go_num,hJ3,hkb3⟩
     case measure=>simp[intOf]
    ·gi_wp2
     refine bodyPost_ret (results_none rfl _ _ _) rfl ?_;exact⟨⟨_,rfl⟩,.inr hJx3⟩
   ·obtain⟨fn,tmps,assign,body,hy,hR⟩:=hY (k+1) k _ wr hJ ⟨rfl,by omega,_,_,rfl,HR1.out⟩
    rw[hy];gi_wp2
    refine hR.mono ?_;rintro e W3 (⟨rfl,hJ3,hk3⟩|⟨rfl,hJx3⟩)
    ·have hkb3:=HKB.out.trans hk3
     gi_wp2
     go_roundw
     case rel=>exact⟨k,by omega,by go_num,hJ3,hkb3⟩
     case measure=>simp[intOf]
    ·gi_wp2
     refine bodyPost_ret (results_none rfl _ _ _) rfl ?_;exact⟨⟨_,rfl⟩,.inr hJx3⟩
theorem down_any (zo vr:Value) (on:Option Addr) (ln cn:Nat) (w:World) :
  Calls Tryz.prog 106 #[.agg #[zo,vr],.slice on ln cn] w fun e w'=>e=.returned (.func (.func 126) #[] #[.pointer (some ⟨w.heap.size+1,0,none⟩),.pointer (some ⟨w.heap.size,0,none⟩)]) /\
   (w.alloc (.cells #[zo,vr] 54)).alloc (.cells #[.slice on ln cn] 38)=w':=by
 go_enter Tryz.func106,Tryz.ntmps106
 go_wp2
 go_ret
 exact⟨rfl,rfl⟩
end
section
attribute [local go_sem] Oper.semAt_some
theorem cell_obj {W:World} {p:Addr} {x:Value} (h:W.cell? p=some x):∃c t f,W.heap[p.block]? = some (.cells c t f)/\p.spot=none/\c[p.off]? = some x:=by
 unfold World.cell? at h;split at h
 ·rename_i c t f hc
  split at h
  ·cases h
  ·rename_i hs
   exact⟨c,t,f,hc,by simpa using hs,h⟩
 ·cases h
theorem CellsKept.cell {W W':World} (h:CellsKept W W') {p:Addr} {x:Value} (hc:W.cell? p=some x):W'.cell? p=some x:=by
 obtain⟨c,t,f,h1,h2,h3⟩:=cell_obj hc;unfold World.cell?;rw[h _ _ _ _ h1];simp[h2,h3]
theorem CellsKept.trans {A B C:World} (h:CellsKept A B) (k:CellsKept B C):CellsKept A C:=fun i c t f hi=>k i c t f (h i c t f hi)
theorem Rd.cells_kept {v l} {W W':World} (h:Rd v l W) (hk:CellsKept W W'):Rd v l W':=by
 obtain⟨o,cap,h1,h2,h3,h4,h5⟩:=h;refine⟨o,cap,h1,h2,h3,h4,fun j hj=>?_⟩
 obtain⟨a,ha,hc⟩:=h5 j hj;exact⟨a,ha,hk.cell hc⟩
theorem Rd.put {v l} {W:World} (h:Rd v l W) {L r} (hr:W.heap[L]? = some (.loop r)) (o:Obj):Rd v l (W.putObj L o):=h.cells_kept (CellsKept.put hr o)
theorem CellsKept.putD {W:World} {l d} (hr:W.heap[l]? = some (.deferred d)) (o:Obj):CellsKept W (W.putObj l o) :=
 fun k c t f hk=>(World.putObj_heap_other (fun e=>by rw[e,hr] at hk;cases hk)).trans hk
theorem Rd.setBox {v l} {W:World} (h:Rd v l W) {b:Nat} {t:TypeId} {u:Value} (hb:Box b t u W) (hu:∀s,u≠S s) (u':Value):Rd v l (W.setCell ⟨b,0,none⟩ u'):=by
 obtain⟨o,cap,h1,h2,h3,h4,h5⟩:=h;refine⟨o,cap,h1,h2,h3,h4,fun j hj=>?_⟩
 obtain⟨a,ha,hc⟩:=h5 j hj;refine⟨a,ha,?_⟩;have hne:(a.add j).block≠b:=fun e=>by
  obtain⟨c,t',f,k1,k2,k3⟩:=cell_obj hc;unfold Box at hb;rw[e,hb] at k1;cases k1;rw[zO] at k3;obtain⟨k4,k5⟩:=k3;have k6:(a.add j).off=0:=by simpa using k4
  simp only[k6,List.getElem_toArray,List.getElem_cons_zero] at k5;exact hu _ k5
 rw[World.cell?_of_block (Below.heap_setCell _ _ _ _ hne)];exact hc
theorem Blk.put {b cs t W l r} (h:Blk b cs t W) (hr:W.heap[l]? = some (.loop r)) (o:Obj):Blk b cs t (W.putObj l o):=CellsKept.put hr o _ _ _ _ h
theorem Blk.set {b cs t W} (h:Blk b cs t W) {c o:Nat} (hne:b≠c) (u:Value):Blk b cs t (W.setCell ⟨c,o,none⟩ u):=(Below.heap_setCell _ _ _ _ hne).trans h
structure CutM (B:Nat) (w ws:World) (zo vr:Value) (W:World):Prop where
 zb:Blk B #[zo,vr] 54 W
 r0:Box (B+1) 38 (.slice none 0 0) W
 r1:Box (B+2) 4 (.bool false) W
 kp:keepB ws.heap.size ws W
 below:Below B w W
 size:ws.heap.size<=W.heap.size
theorem CutM.put {B w ws zo vr L} (hL:ws.heap.size<=L) (hB:B<=ws.heap.size) {A:World} {r:Loop} (h:CutM B w ws zo vr A) (hr:A.heap[L]? = some (.loop r)) (o:Obj):CutM B w ws zo vr (A.putObj L o) :=
 ⟨h.zb.put hr o,h.r0.put hr o,h.r1.put hr o,h.kp.trans (keepB.put hL A o),below_put h.below (by omega) hr (by have:=h.size;omega) o,by simpa using h.size⟩
theorem CutM.on {B w ws zo vr} {A W:World} (h:CutM B w ws zo vr A) (hb:Below A.heap.size A W) (hBA:B<=A.heap.size):CutM B w ws zo vr W :=
 ⟨h.zb.below hb,h.r0.below hb,h.r1.below hb,h.kp.trans ((keepB.of_below hb).mono h.size),h.below.trans (hb.mono hBA),by have:=hb.size;have:=h.size;omega⟩
theorem Zn.cutF_hit {ol:Nat} {L:List Rc.PRec} {n:Zn.Nam} {k:Nat} (h1:ol<(n.drop k).length) (h2:Zn.has L (n.drop k) 2=true):Zn.cutF ol L n (k+1)=some k:=by
 rw[Zn.cutF,if_pos (by simp only[Bool.and_eq_true,decide_eq_true_eq];exact⟨h1,h2⟩)]
theorem Zn.cutF_short {ol:Nat} {L:List Rc.PRec} {n:Zn.Nam} {k:Nat} (h1:¬ol<(n.drop k).length):Zn.cutF ol L n (k+1)=Zn.cutF ol L n k:=by
 rw[Zn.cutF,if_neg (by simp only[Bool.and_eq_true,decide_eq_true_eq];exact fun h=>h1 h.1)]
theorem Zn.cutF_miss {ol:Nat} {L:List Rc.PRec} {n:Zn.Nam} {k:Nat} (h2:Zn.has L (n.drop k) 2=false):Zn.cutF ol L n (k+1)=Zn.cutF ol L n k:=by
 rw[Zn.cutF,if_neg (by simp only[Bool.and_eq_true,decide_eq_true_eq];exact fun h=>by rw[h2] at h;cases h.2)]
def CutX (B:Nat) (w ws:World) (n:List (List UInt8)) (res:Option Nat) (c:Code) (W:World):Prop :=
 c=.ret/\∃k v,res=some k/\Rd v (n.drop k) W/\Box (B+1) 38 v W/\Box (B+2) 4 (.bool true) W/\Below B w W/\ws.heap.size<=W.heap.size
theorem CutX.put {B w ws n res L} (hL:ws.heap.size<=L) (hB:B<=ws.heap.size) {c:Code} {A:World} {r:Loop} (h:CutX B w ws n res c A) (hr:A.heap[L]? = some (.loop r)) (o:Obj):CutX B w ws n res c (A.putObj L o):=by
 obtain⟨h0,k,v,h1,h2,h3,h4,h5,h6⟩:=h;exact⟨h0,k,v,h1,h2.put hr o,h3.put hr o,h4.put hr o,below_put h5 (by omega) hr (by omega) o,by simpa using h6⟩
def CutR (o:Zn.Nam) (L:List Rc.PRec) (n:Zn.Nam) (w:World) (e:Ending) (w':World):Prop :=
 ∃v,e=.returned (.tuple #[v,.bool (Zn.isCut o L n)])/\Rd v (Zn.cut o L n) w'/\Below w.heap.size w w'
theorem Zn.cut_some {o:Zn.Nam} {L:List Rc.PRec} {n:Zn.Nam} {k:Nat} (h:Zn.cutAt o L n=some k):Zn.isCut o L n=true/\Zn.cut o L n=n.drop k:=by
 unfold Zn.isCut Zn.cut;rw[h];exact⟨rfl,rfl⟩
theorem Zn.cut_none {o:Zn.Nam} {L:List Rc.PRec} {n:Zn.Nam} (h:Zn.cutAt o L n=none):Zn.isCut o L n=false/\Zn.cut o L n=[]:=by
 unfold Zn.isCut Zn.cut;rw[h];exact⟨rfl,rfl⟩
theorem Zn.cutAt_not {o:Zn.Nam} {L:List Rc.PRec} {n:Zn.Nam} (h:Nm.under n o=false):Zn.cutAt o L n=none:=by
 unfold Zn.cutAt;rw[if_neg (by rw[h];exact Bool.false_ne_true)]
theorem Zn.cutAt_is {o:Zn.Nam} {L:List Rc.PRec} {n:Zn.Nam} (h:Nm.under n o=true):Zn.cutAt o L n=Zn.cutF o.length L n (n.length-o.length+1):=by
 unfold Zn.cutAt;rw[if_pos h]
theorem leaveM {F:Fence} {n:Nat} {P:Program} {fn:Func} {R:Ending->World->Prop} {a:Act} {w:World} {v:Value} (hd:a.defers=[]) (hr:(results fn a.tmps).run P w=.ok v w) (hR:R (.returned v) w):bodyPostM F n P fn R .ret a w:=by
 show LeavesInM F n P fn a.tmps R a.defers .returning w;rw[hd];exact⟨v,hr,hR⟩
theorem leaveD {F:Fence} {n:Nat} {P:Program} {fn:Func} {R:Ending->World->Prop} {a:Act} {w:World} {v:Value} {b:Nat} (hd:a.defers=[{ target:=.collected b,args:=#[] }]) (hb:w.heap[b]? = some (.deferred (some []))) (hr:(results fn a.tmps).run P (w.putObj b (.deferred none))=.ok v (w.putObj b (.deferred none))) (hR:R (.returned v) (w.putObj b (.deferred none))):bodyPostM F n P fn R .ret a w:=by
 show LeavesInM F n P fn a.tmps R a.defers .returning w;rw[hd];exact⟨by simp,.inl ⟨_,_,rfl,run_takeDeferred hb,v,hr,hR⟩⟩
def CutI (B:Nat) (w ws:World) (zo vr:Value) (o:Zn.Nam) (L:List Rc.PRec) (n:Zn.Nam) (k:Nat) (W:World):Prop :=
 k<=n.length-o.length+1/\Zn.cutF o.length L n (n.length-o.length+1)=Zn.cutF o.length L n k/\CutM B w ws zo vr W
theorem CutI.put {B w ws zo vr o L n K} (hL:ws.heap.size<=K) (hB:B<=ws.heap.size) (k:Nat) (A:World) (r:Loop) (ob:Obj) (h:CutI B w ws zo vr o L n k A) (hr:A.heap[K]? = some (.loop r)):CutI B w ws zo vr o L n k (A.putObj K ob) :=
 ⟨h.1,h.2.1,h.2.2.put hL hB hr ob⟩
set_option maxHeartbeats 2000000 in
theorem zCutOf_any {w w0:World} (zo vr vn:Value) (l:List (El w)) (o n:List (List UInt8)) (hb0:Below w.heap.size w w0) (hv:RecsRd vr (l.map (·.1)) w0) (na:l.length<=1000) (ho:Rd zo o w0) (no:NB o) (hn:Rd vn n w0) (nn:NB n) :
  Calls Tryz.prog 79 #[.agg #[zo,vr],vn] w0 (CutR o (plE l) n w0):=by
 obtain⟨oo,co,rfl,_,_⟩:=ho.form;obtain⟨on,cn,rfl,_,_⟩:=hn.form;obtain⟨ov,cv,rfl⟩:∃o cap,vr=.slice o l.length cap:=by obtain⟨_,o,cap,h,_⟩:=hv;exact⟨o,cap,by rw[h,Zf]⟩
 obtain⟨W3,hW3⟩:=Zq (((w0.alloc (.cells #[.slice oo o.length co,.slice ov l.length cv] 54)).alloc (.cells #[.slice none 0 0] 38)).alloc (.cells #[.bool false] 4));have hbW:Below w0.heap.size w0 W3:=by
  subst hW3;exact ((Zr).alloc (by simp) _).alloc (by simp;omega) _
 have b0:Blk w0.heap.size #[.slice oo o.length co,.slice ov l.length cv] 54 W3:=by
  subst hW3;exact ((Blk.new w0 _ _).alloc _).alloc _
 have b1:Box (w0.heap.size+1) 38 (.slice none 0 0) W3:=by
  subst hW3;have:=(Box.new (w0.alloc (.cells #[.slice oo o.length co,.slice ov l.length cv] 54)) 38 (.slice none 0 0)).alloc (.cells #[.bool false] 4)
  rwa [World.size_alloc] at this
 have b2:Box (w0.heap.size+2) 4 (.bool false) W3:=by
  subst hW3;have:=Box.new ((w0.alloc (.cells #[.slice oo o.length co,.slice ov l.length cv] 54)).alloc (.cells #[.slice none 0 0] 38)) 4 (.bool false)
  rwa [World.size_alloc,World.size_alloc] at this
 have e12:w0.heap.size+1+1=w0.heap.size+2:=rfl;have s3:W3.heap.size=w0.heap.size+3:=by subst hW3;simp
 have c00:W3.cell? ⟨w0.heap.size,0,none⟩=some _:=b0.cell 0;have c01:W3.cell? ⟨w0.heap.size,1,none⟩=some _:=b0.cell 1;have HB:=Hd hbW;have B0:=Hd b0;have B1:=Hd b1;have B2:=Hd b2;have HN:=Hd (hn.below hbW);have HN0:=Hd hn;have HO:=Hd (ho.below hbW);have HV:=Hd hv;have HB0:=Hd hb0;have NN:=Hd nn;have NO:=Hd no;have ln:(n.length:Int)<=1000:=by have:=nn.1;omega
 have lo:(o.length:Int)<=1000:=by have:=no.1;omega
 clear hv hn ho nn no hb0 hbW b0;rcases hu:Nm.under n o with _|_
 ·have HU:=Hd hu
  clear hu b1 b2;refine (zF (n:=0)).1 ?_;refine callsIn_of_wp_marks Tryz.func79 rfl trivial ?_ rfl;simp only[Tryz.ntmps79,Zo,Ze,Zg,Nat.reduceAdd,Nat.reduceSub,Zi,Zj,Zk,Zl,Zm,Zp];gi_wp2_with (gi_at_call 13;refine (callsIn_wide.2 (nUnder_any _ _ n o _ HN.out HO.out NN.out NO.out)).mono ?_;rintro e w1 ⟨rfl,b1⟩;rw[HU.out];have hx1:=(B1.out.below b1).frozen;have hx2:=(B2.out.below b1).frozen;have hy1:=(B1.out.below b1).cell;have hy2:=(B2.out.below b1).cell)
  have g1:=((B1.out.below b1).set (.slice none 0 0)).setOther (c:=w0.heap.size+2) (o:=0) (by omega) (.bool false)
  have g2:=((B2.out.below b1).setOther (c:=w0.heap.size+1) (o:=0) (by omega) (.slice none 0 0)).set (.bool false)
  have g1c:=g1.cell;have g2c:=g2.cell;refine leaveM (v:=.tuple #[.slice none 0 0,.bool false]) rfl (by simp[results,Tryz.results79,go_sem,g1c,g2c]) ?_
  have hc:=Zn.cut_none (L:=plE l) (Zn.cutAt_not HU.out);exact⟨_,by rw[hc.1],by rw[hc.2];exact Rd.nil _,((Z5 HB.out b1).setCell (p:=⟨w0.heap.size+1,0,none⟩) (by simp) _).setCell (p:=⟨w0.heap.size+2,0,none⟩) (by simp) _⟩
 ·have HU:=Hd hu
  have hle:=Nm.under_le' hu;have HCA:=Hd (Zn.cutAt_is (L:=plE l) hu);clear hu b1 b2;refine (zF (n:=0)).1 ?_;refine callsIn_of_wp_marks Tryz.func79 rfl trivial ?_ rfl;simp only[Tryz.ntmps79,Zo,Ze,Zg,Nat.reduceAdd,Nat.reduceSub,Zi,Zj,Zk,Zl,Zm,Zp];gi_wp2_with (gi_at_call 13;refine (callsIn_wide.2 (nUnder_any _ _ n o _ HN.out HO.out NN.out NO.out)).mono ?_;rintro e w1 ⟨rfl,b1⟩;rw[HU.out];have d00:w1.cell? ⟨w0.heap.size,0,none⟩=some _:=(B0.out.below b1).cell 0;have d01:w1.cell? ⟨w0.heap.size,1,none⟩=some _:=(B0.out.below b1).cell 1)
  gi_wp2_with (gi_at_call 106;refine (callsIn_wide.2 (down_any _ _ _ _ _ _)).mono ?_;rintro e ws ⟨rfl,hws⟩)
  have hb2:Below w1.heap.size w1 ws:=by rw[<-hws];exact (Zr).alloc (by simp) _
  have ss:ws.heap.size=w1.heap.size+2:=by rw[<-hws];simp
  have hcn:ws.cell? ⟨w1.heap.size+1,0,none⟩=some (.slice on n.length cn):=by
   rw[<-hws];have:=(Blk.new (w1.alloc (.cells #[.slice oo o.length co,.slice ov l.length cv] 54)) #[.slice on n.length cn] 38).cell 0
   rwa [World.size_alloc] at this
  have hcz:ws.cell? ⟨w1.heap.size,0,none⟩=some (.slice oo o.length co):=by rw[<-hws];exact ((Blk.new w1 _ _).alloc _).cell 0
  have hbs:Below W3.heap.size W3 ws:=b1.trans (hb2.mono b1.size);have hs1:w0.heap.size+3<=ws.heap.size:=by have:=hbs.size;omega
  have hM0:CutM w0.heap.size w0 ws (.slice oo o.length co) (.slice ov l.length cv) ws:=⟨B0.out.below hbs,B1.out.below hbs,B2.out.below hbs,keepB.refl _ _,Z5 HB.out hbs,Zh _⟩;have HNS:=Hd HN0.out;have hnl:n.length<=1000:=NN.out.1;clear hws hb2 d00 d01 c00 c01 s3 hW3 hbs b1;refine rf_outer rfl (enters_of Tryz.func126 (by kernel_rfl) rfl) (down1_iter (fun b=>b<ws.heap.size) w0 ws (w1.heap.size+1) w1.heap.size (by show _<_;omega) (by show _<_;omega) on oo cn co n o hcn hcz HNS.out hnl hle)
   (fun A B h=>by subst h;exact KeepsOthers.refl _) (fun A B C h k=>keepB.trans h k) (fun A ob=>keepB.put (by omega) A ob)
   (fun _ _ _ _ h=>by obtain⟨_,_,_,_,h,_⟩:=h;subst h;rfl)
   (CutI w0.heap.size w0 ws (.slice oo o.length co) (.slice ov l.length cv) o (plE l) n)
   (CutX w0.heap.size w0 ws n (Zn.cutF o.length (plE l) n (n.length-o.length+1)))
   (fun _ _ _ h e=>by subst e;exact h) (fun _ _ _ h e=>by subst e;exact h)
   (CutI.put (by omega) (by omega)) (fun _ _ _ ob h hr=>h.put (by omega) (by omega) hr ob)
   (fun r=>⟨Zh _,rfl,?start⟩) (fun r=>?pre) ?round ?done ?stop
  case start=>exact hM0.on ((Zr).alloc (by simp) _) (by omega)
  case pre=>exact keepB.of_below ((Zr).alloc (by simp) _)
  case round =>
   rintro lp k k' v W hI ⟨rfl,hk',ox,cx,rfl,hx⟩;gi_wp2
   refine rfNext_same (keepB.refl _ _) hI (CutI.put (K:=ws.heap.size+1) (by omega) (by omega)) ?_
   clear hI hM0;rintro W r rfl hr ⟨h1,h2,hM⟩;have hxl:(n.drop k').length=n.length-k':=by simp
   obtain⟨m,hm⟩:=Zq (n.length-k');rw[hm] at hx hxl ⊢;obtain⟨x,hxd⟩:=Zq (n.drop k');have NX:=Hd (show NB x by rw[<-hxd];exact NN.out.drop k')
   have HX:=Hd (show Rd (.slice ox m cx) x W by rw[<-hxd];exact hx.below hM.below)
   have HM:=Hd hM;have H2:=Hd h2;have HXD:=Hd hxd;have hm1:(m:Int)<=1000:=by omega
   have c00:W.cell? ⟨w0.heap.size,0,none⟩=some _:=hM.zb.cell 0;have c01:W.cell? ⟨w0.heap.size,1,none⟩=some _:=hM.zb.cell 1;have hsz:=hM.size;rw[hxd] at hxl;clear hM h2 hx hr;by_cases hgt:o.length<m
   ·have hgz:(o.length:Int)<(m:Int):=by omega
    have hgd:decide ((o.length:Int)<(m:Int))=true:=by simp[hgt]
    have hgd2:decide (o.length<m)=true:=by simp[hgt]
    have HC:=Hd (zHas_any (.slice oo o.length co) (.slice ov l.length cv) (.slice ox m cx) l x 2 (Z5 HB0.out HM.out.below) (HV.out.kept HM.out.below) na HX.out NX.out);rcases hh:Zn.has (plE l) x 2 with _|_
    ·have HH:=Hd hh
     clear hh;gi_wp2_with fail
     refine (CallsIn.inRound _ (callsIn_wide.2 HC.out)).mono ?_;rintro e W2 ⟨rfl,bb⟩;rw[HH.out];gi_wp2_with fail
     refine⟨Z6 bb,(keepB.of_below bb).mono hsz,by omega,?_,HM.out.on bb (by omega)⟩
     rw[H2.out,Zn.cutF_miss (by rw[HXD.out];exact HH.out)]
    ·have HH:=Hd hh
     clear hh;gi_wp2_with fail
     refine (CallsIn.inRound _ (callsIn_wide.2 HC.out)).mono ?_;rintro e W2 ⟨rfl,bb⟩;rw[HH.out];gi_wp2_with fail
     refine (CallsIn.inRound _ (callsIn_wide.2 (clone_any _ x _ (HX.out.below bb) NX.out))).mono ?_;rintro e W4 ⟨v4,rfl,hr4,b4⟩;gi_wp2_with fail
     refine (CallsIn.inRound _ (callsIn_wide.2 (clip_any _ x _ hr4.rdOf NX.out))).mono ?_;rintro e W5 ⟨v5,rfl,hr5,rfl⟩;obtain⟨o5,c5,rfl,_,_⟩:=hr5.form;rw[hxl] at hr5;have bb4:=Z5 bb b4;have hM5:=HM.out.on bb4 (by omega)
     have hx1:=hM5.r0.frozen;have hx2:=hM5.r1.frozen;have hy1:=hM5.r0.cell;have hy2:=hM5.r1.cell;gi_wp2_with fail
     refine⟨((Z6 bb4).trans (KeepsOthers.setCell _ _ _)).trans (KeepsOthers.setCell _ _ _),rfl,k',(.slice o5 m c5),?_,?_,?_,?_,?_,?_⟩
     ·rw[H2.out];exact Zn.cutF_hit (by rw[HXD.out,hxl];exact hgt) (by rw[HXD.out];exact HH.out)
     ·rw[HXD.out]
      exact (hr5.setBox hM5.r0 (fun s h=>by cases h) (.slice o5 m c5)).setBox (hM5.r1.setOther (c:=w0.heap.size+1) (o:=0) (by omega) (.slice o5 m c5)) (fun s h=>by cases h) _
     ·exact (hM5.r0.set (.slice o5 m c5)).setOther (c:=w0.heap.size+2) (o:=0) (by omega) _
     ·exact (hM5.r1.setOther (c:=w0.heap.size+1) (o:=0) (by omega) (.slice o5 m c5)).set _
     ·exact (hM5.below.setCell (p:=⟨w0.heap.size+1,0,none⟩) (by simp) _).setCell (p:=⟨w0.heap.size+2,0,none⟩) (by simp) _
     ·simpa[World.setCell] using hM5.size
   ·have hgz:¬(o.length:Int)<(m:Int):=by omega
    have hgd:decide ((o.length:Int)<(m:Int))=false:=by simp;omega
    have hgd2:decide (o.length<m)=false:=by simp;omega
    gi_wp2_with fail
    refine⟨KeepsOthers.refl _,keepB.refl _ _,by omega,?_,HM.out⟩
    rw[H2.out,Zn.cutF_short (by rw[HXD.out,hxl];exact hgt)]
  case done =>
   rintro k W rfl ⟨_,h2,hM⟩ hKd;have hx1:=hM.r0.frozen;have hx2:=hM.r1.frozen;have hy1:=hM.r0.cell;have hy2:=hM.r1.cell;have H2:=Hd h2;have HM:=Hd hM;have HKD:=Hd hKd;clear h2 hM hM0 hKd;gi_wp2_with fail
   have hM:=HM.out;have hK2:((W.setCell ⟨w0.heap.size+1,0,none⟩ (.slice none 0 0)).setCell ⟨w0.heap.size+2,0,none⟩ (.bool false)).heap[ws.heap.size]? = some (.deferred (some [])):=(Below.heap_setCell _ _ _ _ (by simp;omega)).trans ((Below.heap_setCell _ _ _ _ (by simp;omega)).trans HKD.out)
   have g1:=(((hM.r0.set (.slice none 0 0)).setOther (c:=w0.heap.size+2) (o:=0) (by omega) (.bool false)).putD hK2 (.deferred none)).cell
   have g2:=(((hM.r1.setOther (c:=w0.heap.size+1) (o:=0) (by omega) (.slice none 0 0)).set (.bool false)).putD hK2 (.deferred none)).cell
   refine leaveD (v:=.tuple #[.slice none 0 0,.bool false]) rfl hK2 (by simp[results,Tryz.results79,go_sem,g1,g2]) ?_
   have hc:=Zn.cut_none (L:=plE l) (show Zn.cutAt o (plE l) n=none by rw[HCA.out,H2.out];rfl)
   exact⟨_,by rw[hc.1],by rw[hc.2];exact Rd.nil _,below_putD ((hM.below.setCell (p:=⟨w0.heap.size+1,0,none⟩) (by simp) _).setCell (p:=⟨w0.heap.size+2,0,none⟩) (by simp) _) (by omega) (by have:=hM.size;simp[World.setCell];omega) _⟩
  case stop =>
   rintro c W ⟨rfl,k,v,h1,h2,h3,h4,h5,h6⟩ hKd;have H1:=Hd h1;have H2:=Hd h2;have g1:=(h3.putD hKd (.deferred none)).cell;have g2:=(h4.putD hKd (.deferred none)).cell;have G:=Hd (And.intro g1 g2);have HKD:=Hd hKd;have H5:=Hd h5;clear h1 h2 h3 h4 h5 g1 g2 hKd hM0;gi_wp2_with fail
   have g1:=G.out.1;have g2:=G.out.2;obtain⟨o5,c5,rfl,_,_⟩:=H2.out.form;refine leaveD (v:=.tuple #[.slice o5 (n.length-k) c5,.bool true]) rfl HKD.out (by simp[results,Tryz.results79,go_sem,g1,g2];try rfl) ?_
   have hc:=Zn.cut_some (L:=plE l) (show Zn.cutAt o (plE l) n=some k by rw[HCA.out];exact H1.out)
   exact⟨_,by rw[hc.1],by rw[hc.2];have:=H2.out.cells_kept (CellsKept.putD HKD.out (.deferred none));rw[List.length_drop] at this;exact this,below_putD H5.out (by omega) (by omega) _⟩
end
section
namespace Zn
open Rc
end Zn
end
end Go.Proofs.YtgmbefolgppmdaaGreat
