/- What the reference asks of a record; what may be, and is short. -/
import Derived.Test.YtgmbefolgppmdaaGreatLGdD
import Derived.Test.YtgmbefolgppmdaaGreatLAli
import Derived.Test.YtgmbefolgppmdaaGreatLRcG
import Derived.Test.YtgmbefolgppmdaaGreatLSfC
import Derived.Test.YtgmbefolgppmdaaGreatLEgL
import Derived.Test.YtgmbefolgppmdaaGreatLReg
import Derived.Test.YtgmbefolgppmdaaGreatLSgC
namespace Go.Proofs.YtgmbefolgppmdaaGreat
open Go.RowKit Go.Shelf Go.Sort
set_option maxRecDepth 100000
section
set_option maxHeartbeats 1000000 in
theorem checkRec3_any (vs:List Value) (r:Rc.PRec) (w0:World) (h:RecRd vs r w0) (ho:NB r.owner) (hf:DF r) :
  Calls Tryz.prog 72 #[.agg vs.toArray] w0 (Ints2 (r.type=2->r.names.length=1) w0):=by
 obtain⟨p0,n0,q0,p1,n1,q1,p2,n2,q2,p3,n3,q3,p4,n4,q4,rfl,hro,hrd⟩:=h.cells;obtain⟨tt,htt⟩:=Zq r.ttl;rw[htt];obtain⟨W1,hW1⟩:∃W1,w0.alloc (.cells #[.slice p0 n0 q0,.int .u32 (tt:Int),.int .i64 r.type,.slice p1 n1 q1,.slice p2 n2 q2,.slice p3 n3 q3,.slice p4 n4 q4] 119)=W1:=⟨_,rfl⟩;have hb1:Below w0.heap.size w0 W1:=by subst hW1;exact Zr
 have k0:Blk w0.heap.size #[.slice p0 n0 q0,.int .u32 (tt:Int),.int .i64 r.type,.slice p1 n1 q1,.slice p2 n2 q2,.slice p3 n3 q3,.slice p4 n4 q4] 119 W1:=by subst hW1;exact Blk.new w0 _ _
 have d0:W1.cell? ⟨w0.heap.size,0,none⟩=some _:=k0.cell 0;have K0:=Hd k0;have HB:=Hd hb1;have HN:=Hd (zB _ _ _ (hro.below hb1) ho);have HD:=Hd (fun w' (hw:Below w0.heap.size w0 w')=>checkData3_any _ r w' (hrd.below hw) hf)
 obtain⟨z,hz⟩:=Zq (Nm.check r.owner);rw[hz] at HN;clear hro hrd h k0 hb1 hz hf ho;by_cases hz0:z=0
 ·subst hz0
  by_cases ht:2147483647<tt
  ·have ht1:(2147483647:Int)<(tt:Int):=by omega
   have ht2:decide ((2147483647:Int)<(tt:Int))=true:=by simp;omega
   have ht3:decide (2147483647<tt)=true:=by simp;omega
   go_enter Tryz.func72,Tryz.ntmps72
   go_wp2_with fail
   refine HN.out.mono ?_;rintro e w2 ⟨rfl,b2⟩;have e1:w2.cell? ⟨w0.heap.size,1,none⟩=some _:=(K0.out.below b2).cell 1;have HB2:=Hd (Z5 HB.out b2);clear b2;go_wp2_with fail
   go_ret
   exact⟨_,rfl,fun h=>by first|exact absurd h hz0|exact absurd h (by decide),HB2.out⟩
  ·have ht1:¬(2147483647:Int)<(tt:Int):=by omega
   have ht2:decide ((2147483647:Int)<(tt:Int))=false:=by simp;omega
   have ht3:decide (2147483647<tt)=false:=by simp;omega
   go_enter Tryz.func72,Tryz.ntmps72
   go_wp2_with fail
   refine HN.out.mono ?_;rintro e w2 ⟨rfl,b2⟩;have e1:w2.cell? ⟨w0.heap.size,1,none⟩=some _:=(K0.out.below b2).cell 1;have e2:w2.cell? ⟨w0.heap.size,2,none⟩=some _:=(K0.out.below b2).cell 2;have e3:w2.cell? ⟨w0.heap.size,3,none⟩=some _:=(K0.out.below b2).cell 3;have e4:w2.cell? ⟨w0.heap.size,4,none⟩=some _:=(K0.out.below b2).cell 4;have e5:w2.cell? ⟨w0.heap.size,5,none⟩=some _:=(K0.out.below b2).cell 5;have e6:w2.cell? ⟨w0.heap.size,6,none⟩=some _:=(K0.out.below b2).cell 6;have HB2:=Hd (Z5 HB.out b2);have HD2:=Hd (HD.out _ (Z5 HB.out b2));clear b2;go_wp2_with fail
   refine HD2.out.mono ?_;rintro e w3 ⟨z,rfl,hq,b3⟩;have HQ:=Hd (And.intro hq (Z5 HB2.out b3));clear hq b3;go_wp2_with fail
   go_ret
   exact⟨_,rfl,HQ.out.1,HQ.out.2⟩
 ·have hz1:(z != 0)=true:=by simpa using hz0
  go_enter Tryz.func72,Tryz.ntmps72
  go_wp2_with fail
  refine HN.out.mono ?_;rintro e w2 ⟨rfl,b2⟩;have HB2:=Hd (Z5 HB.out b2);clear b2;go_wp2_with fail
  go_ret
  exact⟨_,rfl,fun h=>by first|exact absurd h hz0|exact absurd h (by decide),HB2.out⟩
end
section
def Nm.good2 (n:List (List UInt8)):Bool:=Nm.few n&&(Nm.check n == 0)
set_option maxHeartbeats 2000000 in
theorem good2_any (v:Value) (n:List (List UInt8)) (w:World) (hv:Rd v n w) :
  Calls Tryz.prog 40 #[v] w (Gives (.bool (Nm.good2 n)) w):=by
 rcases hf:Nm.few n with _|_
 ·have HF:=Hd hf
  have HG:=Hd (show Nm.good2 n=false by unfold Nm.good2;rw[hf];rfl)
  clear hf
  go_enter Tryz.func40,Tryz.ntmps40
  go_wp2_with fail
  refine (few_any _ n _ hv).mono ?_;rintro e w1 ⟨rfl,b1⟩;rw[HF.out];replace hv:=hv.below b1;go_wp2_with fail
  go_ret
  exact⟨by rw[HG.out];rfl,b1⟩
 ·have HN:=Hd (NB.few hf)
  have HF:=Hd hf;obtain⟨z,hz⟩:=Zq (Nm.check n);have HZ:=Hd hz;have HG:=Hd (show Nm.good2 n=(z == 0) by unfold Nm.good2;rw[hf,hz];rfl)
  clear hf hz;by_cases h0:z=0
  ·subst h0
   go_enter Tryz.func40,Tryz.ntmps40
   go_wp2_with fail
   refine (few_any _ n _ hv).mono ?_;rintro e w1 ⟨rfl,b1⟩;rw[HF.out];replace hv:=hv.below b1;go_wp2_with fail
   refine (zB _ n _ hv HN.out).mono ?_;rintro e w2 ⟨rfl,b2⟩;rw[HZ.out];replace hv:=hv.below b2;replace b2:=Z5 b1 b2;go_wp2_with fail
   go_ret
   exact⟨by rw[HG.out];rfl,b2⟩
  ·have h0':(z == 0)=false:=by simpa using h0
   go_enter Tryz.func40,Tryz.ntmps40
   go_wp2_with fail
   refine (few_any _ n _ hv).mono ?_;rintro e w1 ⟨rfl,b1⟩;rw[HF.out];replace hv:=hv.below b1;go_wp2_with fail
   refine (zB _ n _ hv HN.out).mono ?_;rintro e w2 ⟨rfl,b2⟩;rw[HZ.out];replace hv:=hv.below b2;replace b2:=Z5 b1 b2;go_wp2_with fail
   go_ret
   exact⟨by rw[HG.out];simp[h0],b2⟩
theorem Nm.good2_parts {n:List (List UInt8)} (h:Nm.good2 n=true):NB n/\n.length<=140/\Nm.few n=true/\Nm.check n=0:=by
 unfold Nm.good2 at h;rw[Bool.and_eq_true,beq_iff_eq] at h;exact⟨NB.few h.1,Nm.few_len h.1,h.1,h.2⟩
def NSok (l:List RP):Prop:=∀x∈l,x.2.type=2->x.2.names.length=1
set_option maxHeartbeats 1000000 in
theorem good5N_any (v:Value) (l:List RP) (w0:World) (hv:RecsRd v l w0) :
  Calls Tryz.prog 41 #[v] w0 (Says (RF l/\NSok l) w0):=by
 obtain⟨h0,o,cap,rfl,hc1,hc2,_⟩:=id hv;have HV:=Hd hv.el';have H0:=Hd h0;have HF:=Hd (few5_any _ l w0 hv);unfold maxLen at hc2;clear hv h0
 go_enter Tryz.func41,Tryz.ntmps41
 go_wp2_with fail
 refine HF.out.mono ?_;rintro e w1 ⟨b,rfl,hq,b1⟩;cases b with
 | false =>
  have HB:=Hd b1;clear b1 hq;go_wp2_with fail
  go_ret
  exact Says.no HB.out
 | true =>
  have hrf:RF l:=hq rfl;have HRF:=Hd hrf;have HB:=Hd b1;have g60:(l.length:Int)<=60:=by have:=hrf.len;omega
  clear hq b1 hrf;go_wp2
  go_loopw [3] (fun i wr=>∃k:Nat,k<=l.length/\i=.int .i64 k/\Below w0.heap.size w0 wr/\Hid (NSok (l.take k))) (fun i _=>l.length-(intOf i).toNat)
  case atStart=>exact⟨0,Nat.zero_le _,rfl,HB.out,fun x hx=>by simp at hx⟩
  case round =>
   obtain⟨k,hk,rfl,hb,hns⟩:=hrel;by_cases hlt:k<l.length
   ·have hlz:(k:Int)<(l.length:Int):=by omega
    obtain⟨x,hx⟩:=Zq (l[k]);have hm:x∈l:=by rw[<-hx];exact List.getElem_mem _
    have hxr:=H0.out x hm;obtain⟨p0,n0,q0,p1,n1,q1,p2,n2,q2,p3,n3,q3,p4,n4,q4,ex,hro,hrd⟩:=hxr.cells;obtain⟨a,rfl,e0,e1,e2,e3,e4,e5,e6⟩:=HV.out _ hb k hlt _ _ _ _ _ _ _ (by rw[hx];exact ex)
    have hof:=of5_any _ x.2 wr (hxr.below hb) (by have:=(HRF.out.dat x hm).names;omega)
    rw[ex] at hof;have HOF:=Hd hof;have HNO:=Hd (NB.few (HRF.out.owner x hm));have HDX:=Hd (HRF.out.dat x hm);have HBB:=Hd hb;have HXK:Hid (l.take (k+1)=l.take k++[x]):=by show _=_;rw[Zx hlt,hx]
    clear hx ex hro hrd hxr hm hof hb;go_wp2_with fail
    refine HOF.out.mono ?_;rintro e w2 ⟨vs,rfl,hr2,b2⟩;have HB2:=Hd (Z5 HBB.out b2);have HC2:=Hd (checkRec3_any vs x.2 w2 hr2 HNO.out HDX.out);clear hr2 b2 e0 e1 e2 e3 e4 e5 e6;go_wp2_with fail
    refine HC2.out.mono ?_;rintro e w3 ⟨z,rfl,hq,b3⟩;have hb3:=Z5 HB2.out b3;have HQ:=Hd hq;clear b3 hq;by_cases hz:z=0
    ·have hz1:(z != 0)=false:=by simp[hz]
     go_wp2_with fail
     refine⟨⟨k+1,hlt,by go_num,hb3,?_⟩,by simp[intOf];omega⟩
     show NSok _;rw[HXK.out];intro y hy;rcases List.mem_append.1 hy with hy|hy
     ·exact hns.out y hy
     ·rw[List.mem_singleton] at hy;subst hy;exact HQ.out hz
    ·have hz1:(z != 0)=true:=by simpa using hz
     go_wp2_with fail
     go_ret
     exact Says.no hb3
   ·have hlz:¬((k:Int)<(l.length:Int)):=by omega
    go_wp2
    go_ret
    refine⟨true,rfl,fun _=>⟨HRF.out,?_⟩,hb⟩
    have h:=hns.out
    rwa [show k=l.length by omega,List.take_length] at h
set_option maxHeartbeats 1000000 in
theorem good12N_any (u v:Value) (n:List (List UInt8)) (l:List RP) (w0:World) (hu:Rd u n w0) (hv:RecsRd v l w0) :
  Calls Tryz.prog 17 #[u,v] w0 (Says (Nm.good2 n=true/\RF l/\NSok l) w0):=by
 have H2:=Hd (good2_any u n w0 hu);have H5:=Hd (fun w' (hw:Below w0.heap.size w0 w')=>good5N_any v l w' (hv.kept hw))
 obtain⟨bz,hbz⟩:=Zq (Nm.good2 n);have HBZ:=Hd hbz;rw[hbz] at H2;clear hu hv hbz;cases bz with
 | false =>
  go_enter Tryz.func17,Tryz.ntmps17
  go_wp2_with fail
  refine H2.out.mono ?_;rintro e w1 ⟨rfl,b1⟩;have HB:=Hd b1;clear b1;go_wp2_with fail
  go_ret
  exact Says.no HB.out
 | true =>
  go_enter Tryz.func17,Tryz.ntmps17
  go_wp2_with fail
  refine H2.out.mono ?_;rintro e w1 ⟨rfl,b1⟩;have HB:=Hd b1;have H51:=Hd (H5.out _ b1);clear b1;go_wp2_with fail
  refine H51.out.mono ?_;rintro e w2 ⟨b,rfl,hq,b2⟩;have HQ:=Hd hq;have HB2:=Hd (Z5 HB.out b2);clear hq b2;go_wp2_with fail
  go_ret
  exact⟨b,rfl,fun h=>⟨HBZ.out,HQ.out h⟩,HB2.out⟩
end
section
def Rs.datOf (c:List Rc.PRec):List Rc.PRec:=match c with
 | []=>[]
 | x::xs=>(x::xs).take (Rs.run x (x::xs))
def Zn.glueT (L:List Rc.PRec) (h:List (List UInt8)):Nat->List Rc.PRec
 | 0=>[]
 | k+1=>Zn.glueT L h k++Rs.datOf (Rs.mine L h (if k=0 then 1 else 28))
theorem ofV.data {w:World} {c:List (El w)} {v:Value} {W:World} (h:ofV c v W):∃pa pn pc t tt od n cd d,v=.agg #[.slice pa pn pc,.int .i64 t,.int .u32 tt,.slice od n cd]/\(d:List (El w)).length=n/\DatsRd (.slice od n cd) d W/\plE d=Rs.datOf (plE c)/\d.length<=c.length:=by
 match c,h with
 | [],h=>exact⟨_,_,_,_,_,_,_,_,[],h,rfl,DatsRd.nil W,rfl,Zh _⟩
 | x::xs,⟨vo,od,cd,h1,h2,h3⟩ =>
  have hl:((x::xs).take (Rs.run x.1.2 (plE (x::xs)))).length=Rs.run x.1.2 (plE (x::xs)):=by
   have:=Rs.run_le x.1.2 (plE (x::xs))
   rw[List.length_take];simp only[plE,Zf] at this ⊢;omega
  obtain⟨pa,pc,rfl,_⟩:=id h2;refine⟨pa,_,pc,_,_,od,_,cd,_,h1,hl,h3,?_,by rw[List.length_take];exact Nat.min_le_right _ _⟩
  simp[plE,Rs.datOf]
end
section
namespace Rc
end Rc
end
section
def RDatR {w:World} (l:List (El w)) (n:List (List UInt8)) (t:Int) (w0:World) (e:Ending) (w':World):Prop :=
 ∃(od:Option Addr) (cd:Nat) (d:List (El w)),e=.returned (.slice od d.length cd)/\DatsRd (.slice od d.length cd) d w'/\plE d=Rs.datOf (Rs.mine (plE l) n t)/\d.length<=1000/\Below w0.heap.size w0 w'
def RGluR {w:World} (l:List (El w)) (n:List (List UInt8)) (w0:World) (e:Ending) (w':World):Prop :=
 ∃(od:Option Addr) (cd:Nat) (d:List (El w)),e=.returned (.slice od d.length cd)/\DatsRd (.slice od d.length cd) d w'/\plE d=Zn.glueT (plE l) n 2/\Below w0.heap.size w0 w'
end
section

end
section
theorem RecsRd.offSet {w:World} {o:Option Addr} {n cap:Nat} {l:List (El w)} {W:World} (h:RecsRd (.slice o n cap) (l.map (·.1)) W) {b:Nat} {c0 c1:Value} {t:TypeId} (hk:Blk b #[c0,c1] t W) (i:Nat) (u:Value) (hb:Below w.heap.size w (W.setCell ⟨b,i,none⟩ u)) :
  RecsRd (.slice o n cap) (l.map (·.1)) (W.setCell ⟨b,i,none⟩ u):=by
 by_cases hl:l=[]
 ·subst hl
  obtain⟨_,o2,c2,e1,e2,e3,e4,e5⟩:=h;cases e1;exact⟨fun x hx=>(by cases hx),o,cap,rfl,e2,e3,e4,fun j hj=>(by simp[encP] at hj)⟩
 ·refine h.set' (fun a ha e=>?_) u hb
  obtain⟨hx,o2,c2,e1,e2,e3,e4,e5⟩:=h;cases e1;have h7:(encP (l.map (·.1))).length=(l.map (·.1)).length*7:=encP_len (fun x hx'=>(hx x hx').len)
  have hpos:0<l.length:=List.length_pos_iff.2 hl;obtain⟨a',ha',hc⟩:=e5 6 (by rw[h7,Zf];omega)
  rw[ha] at ha';cases ha';have:(a.add 6)=⟨b,a.off+6,none⟩:=by subst e;rfl
  rw[this,hk.cell] at hc;simp at hc
def RNewR {w:World} (l:List (El w)) (oo:Option Addr) (on oc:Nat) (w0:World) (e:Ending) (w':World):Prop :=
 ∃(c:List (El w)) (v':Value),plE c=Rc.canon (plE l)/\c.length<=l.length/\e=.returned (.agg #[.slice oo on oc,v'])/\RecsRd v' (c.map (·.1)) w'/\Below w0.heap.size w0 w'
set_option maxHeartbeats 1000000 in
theorem rNew_any {w w0:World} (oo:Option Addr) (on oc:Nat) (v:Value) (l:List (El w)) (hb0:Below w.heap.size w w0) (hv:RecsRd v (l.map (·.1)) w0) (na:l.length<=1000) :
  Calls Tryz.prog 20 #[.slice oo on oc,v] w0 (RNewR l oo on oc w0):=by
 obtain⟨ov,cv,rfl⟩:∃o cap,v=.slice o l.length cap:=by obtain⟨_,o,cap,h,_⟩:=hv;exact⟨o,cap,by rw[h,Zf]⟩
 obtain⟨W1,hW1⟩:=Zq (w0.alloc (.cells #[.slice none 0 0,.slice none 0 0] 66));obtain⟨hb1,hbk⟩:=zBox hW1;have HB0:=Hd hb0;have HB1:=Hd hb1;have HBK:=Hd hbk;have HC:=Hd (refCanon_any (w0:=W1) _ l (Z5 hb0 hb1) (hv.kept hb1) na);clear hv hb0 hb1 hbk na;refine (zF (n:=0)).1 ?_;refine callsIn_of_wp Tryz.func20 rfl trivial ?_ rfl;simp only[Tryz.ntmps20,Zo,Ze,Zg,Nat.reduceAdd,Nat.reduceSub,Zi,Zj,Zk,Zl,Zm,Zp];gi_wp2_with fail
 refine (callsIn_wide.2 HC.out).mono ?_;rintro e9 w1 ⟨c,v',hp,hl,rfl,hr,b9⟩;obtain⟨o',c',rfl⟩:∃o cap,v'=.slice o c.length cap:=by obtain⟨_,o,cap,h,_⟩:=hr;exact⟨o,cap,by rw[h,Zf]⟩
 have HBD:=Hd (Z5 HB1.out b9);have HKD:=Hd (HBK.out.below b9);have HR:=Hd hr;have HP:=Hd hp;have k0:w1.cell? ⟨w0.heap.size,0,none⟩=some _:=HKD.out.cell 0;have k1:w1.cell? ⟨w0.heap.size,1,none⟩=some _:=HKD.out.cell 1;have y0:=HKD.out.frozen 0;have y1:=HKD.out.frozen 1;clear hp hr b9 HC hW1;gi_wp2_with fail
 obtain⟨W5,hW5⟩:=Zq ((w1.setCell ⟨w0.heap.size,0,none⟩ (.slice oo on oc)).setCell ⟨w0.heap.size,1,none⟩ (.slice o' c.length c'));have hbl5:Blk w0.heap.size #[.slice oo on oc,.slice o' c.length c'] 66 W5:=by subst hW5;exact (HKD.out.setAt 0 _).setAt 1 _
 have hba:Below w0.heap.size w0 (w1.setCell ⟨w0.heap.size,0,none⟩ (.slice oo on oc)):=HBD.out.setCell (p:=⟨w0.heap.size,0,none⟩) (Zh _) _;have hb5':Below w0.heap.size w0 ((w1.setCell ⟨w0.heap.size,0,none⟩ (.slice oo on oc)).setCell ⟨w0.heap.size,1,none⟩ (.slice o' c.length c')):=hba.setCell (p:=⟨w0.heap.size,1,none⟩) (Zh _) _;have hr5:RecsRd (.slice o' c.length c') (c.map (·.1)) W5:=by
  rw[<-hW5];exact (HR.out.offSet HKD.out 0 _ (Z5 HB0.out hba)).offSet (HKD.out.setAt 0 _) 1 _ (Z5 HB0.out hb5')
 have hb5:Below w0.heap.size w0 W5:=by rw[<-hW5];exact hb5'
 have HR5:=Hd hr5;have HB5:=Hd hb5;have b0:W5.cell? ⟨w0.heap.size,0,none⟩=some _:=hbl5.cell 0;have b1:W5.cell? ⟨w0.heap.size,1,none⟩=some _:=hbl5.cell 1;rw[hW5];clear hbl5 hb5 hb5' hba hr5 hW5 k0 k1 y0 y1;refine bodyPost_ret (v:=.agg #[.slice oo on oc,.slice o' c.length c']) (by simp at b0 b1;simp[results,Tryz.results20,go_sem,b0,b1]) rfl ?_
 exact⟨c,_,HP.out,hl,rfl,HR5.out,HB5.out⟩
namespace Rc
theorem put_len (x:PRec):∀L:List PRec,(put x L).length<=L.length+1
 | []=>by simp[put]
 | y::L=>by
  have ih:=put_len x L;unfold put;split
  ·simp only[Ze];omega
  ·split<;>simp
theorem canon_len (l:List PRec):(canon l).length<=l.length:=by
 rw[canon_eq]
 suffices H:∀(l L:List PRec),(l.foldl (fun c x=>put x c) L).length<=L.length+l.length from by have h:=H l [];unfold refCanon;simpa using h
 intro l
 induction l with
 | nil=>intro L;simp
 | cons x l ih =>
  intro L;have h1:=ih (put x L);have h2:=put_len x L;simp only[List.foldl_cons,Ze];omega
end Rc
def TrZ (w:World) (e:Ending) (w':World):Prop:=e=.returned (.bool true)/\Below w.heap.size w w'
end
end Go.Proofs.YtgmbefolgppmdaaGreat
