/- The walk of SetsAll. -/
import Derived.Test.YtgmbefolgppmdaaGreatKSfC
import Derived.Test.YtgmbefolgppmdaaGreatKSgC
import Derived.Test.YtgmbefolgppmdaaGreatKAli
import Derived.Test.YtgmbefolgppmdaaGreatKSgF
import Derived.Test.YtgmbefolgppmdaaGreatKReg
namespace Go.Proofs.YtgmbefolgppmdaaGreat
open Go.RowKit Go.Shelf Go.Sort
set_option maxRecDepth 100000
section
def SetAt {w:World} (_gs:List (List (El w))) (ga:Addr) (w1:World) (i:Nat) (g:List (El w)):Prop :=
 ∃x xs po no qo od cd,g=x::xs/\Rd (.slice po no qo) x.1.2.owner w/\DatsRd (.slice od g.length cd) g w1 /\
  ∀W',Below w1.heap.size w1 W'->W'.cell? (ga.add (i*4))=some (.slice po no qo)/\W'.cell? ⟨(ga.add (i*4)).block,(ga.add (i*4)).off+1,none⟩=some (.int .i64 x.1.2.type) /\
   W'.cell? ⟨(ga.add (i*4)).block,(ga.add (i*4)).off+2,none⟩=some (.int .u32 ((Rs.ttl x.1.2 (plE g):Nat):Int))/\W'.cell? ⟨(ga.add (i*4)).block,(ga.add (i*4)).off+3,none⟩=some (.slice od g.length cd)
theorem SetsRd.at {w:World} {o:Option Addr} {n cap:Nat} {gs:List (List (El w))} {w1:World} (h:SetsRd (.slice o n cap) gs w1) (i:Nat) (hi:i<gs.length):∃ga,o=some ga/\SetAt gs ga w1 i gs[i]:=by
 obtain⟨css,hg,hl,hs⟩:=h;have hi':i<css.length:=by omega
 obtain⟨ga,rfl,_⟩:=hg.at (by decide) i hi'
 obtain⟨x,xs,po,no,qo,od,cd,e1,e2,e3,e4⟩:=hs i hi' hi;refine⟨ga,rfl,x,xs,po,no,qo,od,cd,e1,e3,e4,fun W' hW=>?_⟩
 obtain⟨a,ha,q0,q1⟩:=(hg.below hW).at (by decide) i hi'
 cases ha;simp only[e2] at q0 q1;exact⟨q0,q1 1 (by decide) (by decide),q1 2 (by decide) (by decide),q1 3 (by decide) (by decide)⟩
theorem SetsRd.form {w:World} {v:Value} {gs:List (List (El w))} {w1:World} (h:SetsRd v gs w1):∃o cap,v=.slice o gs.length cap/\gs.length<=cap/\cap<=9223372036854775807:=by
 obtain⟨css,hg,hl,_⟩:=h;obtain⟨o,cap,h1,h2,h3⟩:=hg.form;exact⟨o,cap,by rw[h1,hl],by omega,h3⟩
def TrS (w:World) (e:Ending) (w':World):Prop:=e=.returned (.bool true)/\Below w.heap.size w w'
theorem DatsRd.off {w:World} {o:Option Addr} {n cap:Nat} {l:List (El w)} {W:World} (h:DatsRd (.slice o n cap) l W) (hn:0<n) {b:Nat} {c0 c1 c2 c3:Value} {t:TypeId} (hb:Blk b #[c0,c1,c2,c3] t W):∀a,o=some a->a.block≠b:=by
 rintro a rfl e;obtain⟨o',cap',e0,_,_,_,h5⟩:=h;cases e0;obtain⟨a',ha,hc⟩:=h5 4 (by rw[flat_len encD 5 encD_len];omega)
 cases ha;have:(a.add 4)=⟨b,a.off+4,none⟩:=by subst e;rfl
 rw[this,hb.cell] at hc;simp at hc
end
section
def hasKey {w:World} (o:List (List UInt8)) (t:Int):List (El w)->Bool
 | []=>false
 | x::_=>(x.1.2.type == t)&&Nm.same x.1.2.owner o
theorem find_at {α:Type} {p:α->Bool}:∀{ks:List α} {i:Nat} (hi:i<ks.length),(∀j (h:j<ks.length),j<i->p ks[j]=false)->p ks[i]=true->ks.find? p=some ks[i]
 | x::ks,0,_,_,hp=>by
  have h0:p x=true:=hp;rw[List.find?_cons,h0];rfl
 | x::ks,i+1,hi,h,hp=>by
  have h0:p x=false:=h 0 (by simp) (by omega)
  rw[List.find?_cons,h0];exact find_at (by simpa using hi) (fun j hj hji=>h (j+1) (by simpa using hj) (by omega)) (by simpa using hp)
theorem find_none {α:Type} {p:α->Bool} {ks:List α} (h:∀j (h:j<ks.length),p ks[j]=false):ks.find? p=none:=by
 rw[List.find?_eq_none];intro x hx;obtain⟨j,hj,rfl⟩:=List.getElem_of_mem hx;rw[h j hj];decide
theorem DatsRd.setC {w:World} {o:Option Addr} {n cap:Nat} {l:List (El w)} {W:World} (h:DatsRd (.slice o n cap) l W) {b:Nat} (hb:∀a,o=some a->a.block≠b) (i:Nat) (u:Value):DatsRd (.slice o n cap) l (W.setCell ⟨b,i,none⟩ u):=by
 obtain⟨o',cap',e0,h1,h2,h3,h4⟩:=h;refine⟨o',cap',e0,h1,h2,h3,fun j hj=>?_⟩
 obtain⟨a,ha,hc⟩:=h4 j hj;refine⟨a,ha,?_⟩;rw[<-hc];exact World.cell?_of_block (Below.heap_setCell _ _ _ _ (by rw[add_block];exact hb a (by cases e0;exact ha)))
def ROfV {w:World} (ks:List (List (El w))) (o:List (List UInt8)) (t:Int) (v:Value) (ok:Bool) (W:World):Prop :=
 match ks.find? (hasKey o t) with
 | none=>v=.agg #[.slice none 0 0,.int .i64 0,.int .u32 0,.slice none 0 0]/\ok=false
 | some k=>∃cs,v=.agg cs.toArray/\SetC cs k W/\ok=true
def ROfR {w:World} (l:List (El w)) (o:List (List UInt8)) (t:Int) (w0:World) (e:Ending) (w':World):Prop :=
 ∃(c:List (El w)) (v:Value) (ok:Bool),plE c=Rc.canon (plE l)/\c.length<=l.length/\e=.returned (.tuple #[v,.bool ok])/\ROfV (grp c) o t v ok w'/\Below w0.heap.size w0 w'
theorem mem_flat_len {α:Type} {k:List α}:∀{L:List (List α)},k∈L->k.length<=L.flatten.length
 | x::L,h=>by
  rw[List.flatten_cons,Zb];rcases List.mem_cons.1 h with rfl|h
  ·omega
  ·have:=mem_flat_len h;omega
theorem grp_mem_bound {w:World} {c:List (El w)} {k:List (El w)} (h:k∈grp c):k.length<=c.length:=by
 have h2:=mem_flat_len h;rw[grp_flat c] at h2;exact h2
theorem grp_len {w:World} (c:List (El w)):(grp c).length<=c.length:=by
 have:∀(n:Nat) (c:List (El w)),c.length<=n->(grp c).length<=c.length:=by
  intro n
  induction n with
  | zero=>intro c h;have:c=[]:=List.length_eq_zero_iff.1 (by omega);subst this;exact Zh _
  | succ n ih =>
   intro c h;cases c with
   | nil=>exact Zh _
   | cons x l =>
    have hp:=run_posE x l;rw[grp_cons,Ze];have:=ih ((x::l).drop (Rs.run x.1.2 (plE (x::l)))) (by rw[List.length_drop];simp only[Ze] at h ⊢;omega)
    rw[List.length_drop] at this;simp only[Ze] at this ⊢;omega
 exact this _ c (Zh _)
set_option maxHeartbeats 4000000 in
theorem refOf_any {w w0:World} (v vo:Value) (l:List (El w)) (o:List (List UInt8)) (t:Int) (hb0:Below w.heap.size w w0) (hv:RecsRd v (l.map (·.1)) w0) (na:l.length<=1000) (ho:Rd vo o w0) (no:NB o) :
  Calls Tryz.prog 89 #[v,vo,.int .i64 t] w0 (ROfR l o t w0):=by
 obtain⟨oo,co,rfl,_,_⟩:=ho.form;obtain⟨W2,hW2⟩:=Zq (w0.alloc (.cells #[.slice none 0 0,.int .i64 0,.int .u32 0,.slice none 0 0] 146));have hb2:Below w0.heap.size w0 W2:=by subst hW2;exact Zr
 have hblk:Blk w0.heap.size #[.slice none 0 0,.int .i64 0,.int .u32 0,.slice none 0 0] 146 W2:=by subst hW2;exact Blk.new w0 _ _
 have HC:=Hd (refSets_any v l (Z5 hb0 hb2) (hv.kept hb2) na);have HB0:=Hd hb0;have HB2:=Hd hb2;have HBL:=Hd hblk;have HO:=Hd ho;have NO:=Hd no;clear hb0 hv hb2 hblk ho no;refine (zF (n:=0)).1 ?_;refine callsIn_of_wp Tryz.func89 rfl trivial ?_ rfl;simp only[Tryz.ntmps89,Zo,Ze,Zg,Nat.reduceAdd,Nat.reduceSub,Zi,Zj,Zk,Zl,Zm,Zp];gi_wp2_with fail
 refine (callsIn_wide.2 HC.out).mono ?_;rintro e9 w1 ⟨c,v',hc1,hc2,rfl,hc4,hc5⟩;obtain⟨os,cs,rfl,hs1,hs2⟩:=hc4.form;have HP:=Hd hc1;have HL:=Hd hc2;have HS:=Hd (fun i hi=>hc4.at i hi)
 have HB1:Hid (Below w0.heap.size w0 w1):=Z5 HB2.out hc5;have HBL1:=Hd (HBL.out.below hc5);have HWW:Hid (Below w.heap.size w w1):=Z5 HB0.out (Z5 HB2.out hc5);have hgl:((grp c).length:Int)<=1000:=by have:=grp_len c;omega
 clear hc1 hc2 hc4 hc5 hW2;gi_wp2_with fail
 gi_loopw [9] (fun vi W=>∃i:Nat,i<=(grp c).length/\vi=.int .i64 i/\Hid (∀j (h:j<(grp c).length),j<i->hasKey o t (grp c)[j]=false)/\Below w1.heap.size w1 W) (fun vi _=>(grp c).length-(intOf vi).toNat)
 case atStart=>exact⟨0,Nat.zero_le _,rfl,(fun j h h0=>absurd h0 (by omega)),Below.refl _ _⟩
 case round =>
  obtain⟨i,hi,rfl,HN,hb⟩:=hrel;have HB:=Hd hb;have hbk:=HBL1.out.below hb;have HBK:=Hd hbk;have a0:wr.cell? ⟨w0.heap.size,0,none⟩=some _:=hbk.cell 0;have a1:wr.cell? ⟨w0.heap.size,1,none⟩=some _:=hbk.cell 1;have a2:wr.cell? ⟨w0.heap.size,2,none⟩=some _:=hbk.cell 2;have a3:wr.cell? ⟨w0.heap.size,3,none⟩=some _:=hbk.cell 3;have z0:=hbk.frozen 0;have z1:=hbk.frozen 1;have z2:=hbk.frozen 2;have z3:=hbk.frozen 3;clear hb hbk;by_cases hlt:i<(grp c).length
  case neg =>
   have hlz:¬((i:Int)<((grp c).length:Int)):=by omega
   gi_wp2_with fail
   obtain⟨W5,hW5⟩:=Zq ((((wr.setCell ⟨w0.heap.size,0,none⟩ (.slice none 0 0)).setCell ⟨w0.heap.size,1,none⟩ (.int .i64 0)).setCell ⟨w0.heap.size,2,none⟩ (.int .u32 0)).setCell ⟨w0.heap.size,3,none⟩ (.slice none 0 0));have hbl5:Blk w0.heap.size #[.slice none 0 0,.int .i64 0,.int .u32 0,.slice none 0 0] 146 W5:=by subst hW5;exact (((HBK.out.setAt 0 _).setAt 1 _).setAt 2 _).setAt 3 _
   have hb5:Below w0.heap.size w0 W5:=by
    subst hW5;exact ((((Z5 HB1.out HB.out).setCell (p:=⟨w0.heap.size,0,none⟩) (Zh _) _).setCell (p:=⟨w0.heap.size,1,none⟩) (Zh _) _).setCell (p:=⟨w0.heap.size,2,none⟩) (Zh _) _).setCell (p:=⟨w0.heap.size,3,none⟩) (Zh _) _
   have HBL5:=Hd hbl5;have HB5:=Hd hb5;have b0:W5.cell? ⟨w0.heap.size,0,none⟩=some _:=hbl5.cell 0;have b1:W5.cell? ⟨w0.heap.size,1,none⟩=some _:=hbl5.cell 1;have b2:W5.cell? ⟨w0.heap.size,2,none⟩=some _:=hbl5.cell 2;have b3:W5.cell? ⟨w0.heap.size,3,none⟩=some _:=hbl5.cell 3;rw[hW5];have HW5:=Hd hW5;clear hbl5 hb5 hW5 a0 a1 a2 a3 z0 z1 z2 z3;refine bodyPost_ret (v:=.tuple #[.agg #[.slice none 0 0,.int .i64 0,.int .u32 0,.slice none 0 0],.bool false]) (by simp at b0 b1 b2 b3;simp[results,Tryz.results89,go_sem,b0,b1,b2,b3]) rfl ?_
   refine⟨c,_,_,HP.out,HL.out,rfl,?_,HB5.out⟩;unfold ROfV;rw[find_none (fun j hj=>HN.out j hj (by omega))]
   exact⟨rfl,rfl⟩
  case pos =>
  have hlz:(i:Int)<((grp c).length:Int):=by omega
  obtain⟨ga,rfl,x,xs,po,no,qo,od,cd,e1,e3,e4,e5⟩:=HS.out i hlt;obtain⟨e,he⟩:=Zq (ga.add (i*4));obtain⟨c0,c1,c2,c3⟩:=e5 wr HB.out;rw[he] at c0 c1 c2 c3;have HRO:=Hd e3;have HDA:=Hd e4;have HE1:=Hd e1;have hxk:x.1.2.owner=x.1.2.owner:=rfl;obtain⟨z,hz⟩:=Zq (Nm.same x.1.2.owner o);have HZ:=Hd hz;obtain⟨b,hbt⟩:=Zq ((x.1.2.type == t));have HKEY:Hid (hasKey o t (grp c)[i]=(b&&z)):=by show hasKey o t _=_;rw[e1,<-hz,<-hbt];rfl
  have HSM:Hid (∀W',Below w1.heap.size w1 W'->Calls Tryz.prog 24 #[.slice po no qo,.slice oo o.length co] W' (Gives (.bool z) W')):=fun W' hW=>by
   have:=zC _ _ x.1.2.owner o W' (HRO.out.below (Z5 HWW.out hW)) (HO.out.below (Z5 HB1.out hW)) x.2.2.owner NO.out
   rw[hz] at this;exact this
  have HRX:Hid (∀W',Below w1.heap.size w1 W'->W'.cell? e=some (.slice po no qo)/\W'.cell? ⟨e.block,e.off+1,none⟩=some (.int .i64 x.1.2.type)/\W'.cell? ⟨e.block,e.off+2,none⟩=some (.int .u32 ((Rs.ttl x.1.2 (plE (grp c)[i]):Nat):Int))/\W'.cell? ⟨e.block,e.off+3,none⟩=some (.slice od (grp c)[i].length cd)):=fun W' hW=>by
   have:=e5 W' hW
   rw[he] at this;exact this
  clear e1 e3 e4 e5 hz hxk HS HC;cases b with
  | false =>
   gi_wp2_with fail
   refine⟨⟨i+1,hlt,by go_num,?_,HB.out⟩,by simp[intOf]<;>omega⟩
   show ∀j (h:j<(grp c).length),j<i+1->_;intro j hj hjk;by_cases hji:j<i
   ·exact HN.out j hj hji
   ·have hji:j=i:=by omega
    subst hji;rw[HKEY.out,Bool.false_and]
  | true =>
   cases z with
   | false =>
    gi_wp2_with (gi_at_call 24;refine (callsIn_wide.2 (HSM.out wr HB.out)).mono ?_;rintro e9 wd ⟨rfl,b9⟩;have HBD:=Hd (Z5 HB.out b9);have HBKD:=Hd (HBK.out.below b9);clear a0 a1 a2 a3 z0 z1 z2 z3 c0 c1 c2 c3 b9;obtain⟨c0,c1,c2,c3⟩:=HRX.out wd HBD.out;have a0:wd.cell? ⟨w0.heap.size,0,none⟩=some _:=HBKD.out.cell 0;have a1:wd.cell? ⟨w0.heap.size,1,none⟩=some _:=HBKD.out.cell 1;have a2:wd.cell? ⟨w0.heap.size,2,none⟩=some _:=HBKD.out.cell 2;have a3:wd.cell? ⟨w0.heap.size,3,none⟩=some _:=HBKD.out.cell 3;have z0:=HBKD.out.frozen 0;have z1:=HBKD.out.frozen 1;have z2:=HBKD.out.frozen 2;have z3:=HBKD.out.frozen 3)
    refine⟨⟨i+1,hlt,by go_num,?_,HBD.out⟩,by simp[intOf]<;>omega⟩
    show ∀j (h:j<(grp c).length),j<i+1->_;intro j hj hjk;by_cases hji:j<i
    ·exact HN.out j hj hji
    ·have hji:j=i:=by omega
     subst hji;rw[HKEY.out,Bool.and_false]
   | true =>
    gi_wp2_with (gi_at_call 24;refine (callsIn_wide.2 (HSM.out wr HB.out)).mono ?_;rintro e9 wd ⟨rfl,b9⟩;have HBD:=Hd (Z5 HB.out b9);have HBKD:=Hd (HBK.out.below b9);clear a0 a1 a2 a3 z0 z1 z2 z3 c0 c1 c2 c3 b9;obtain⟨c0,c1,c2,c3⟩:=HRX.out wd HBD.out;have a0:wd.cell? ⟨w0.heap.size,0,none⟩=some _:=HBKD.out.cell 0;have a1:wd.cell? ⟨w0.heap.size,1,none⟩=some _:=HBKD.out.cell 1;have a2:wd.cell? ⟨w0.heap.size,2,none⟩=some _:=HBKD.out.cell 2;have a3:wd.cell? ⟨w0.heap.size,3,none⟩=some _:=HBKD.out.cell 3;have z0:=HBKD.out.frozen 0;have z1:=HBKD.out.frozen 1;have z2:=HBKD.out.frozen 2;have z3:=HBKD.out.frozen 3)
    obtain⟨W5,hW5⟩:∃W,(((wd.setCell ⟨w0.heap.size,0,none⟩ (.slice po no qo)).setCell ⟨w0.heap.size,1,none⟩ (.int .i64 x.1.2.type)).setCell ⟨w0.heap.size,2,none⟩ (.int .u32 ((Rs.ttl x.1.2 (plE (grp c)[i]):Nat):Int))).setCell ⟨w0.heap.size,3,none⟩ (.slice od (grp c)[i].length cd)=W:=⟨_,rfl⟩;have hbl5:Blk w0.heap.size #[.slice po no qo,.int .i64 x.1.2.type,.int .u32 ((Rs.ttl x.1.2 (plE (grp c)[i]):Nat):Int),.slice od (grp c)[i].length cd] 146 W5:=by subst hW5;exact (((HBKD.out.setAt 0 _).setAt 1 _).setAt 2 _).setAt 3 _
    have hb5:Below w0.heap.size w0 W5:=by
     subst hW5;exact ((((Z5 HB1.out HBD.out).setCell (p:=⟨w0.heap.size,0,none⟩) (Zh _) _).setCell (p:=⟨w0.heap.size,1,none⟩) (Zh _) _).setCell (p:=⟨w0.heap.size,2,none⟩) (Zh _) _).setCell (p:=⟨w0.heap.size,3,none⟩) (Zh _) _
    have HBL5:=Hd hbl5;have HB5:=Hd hb5;have b0:W5.cell? ⟨w0.heap.size,0,none⟩=some _:=hbl5.cell 0;have b1:W5.cell? ⟨w0.heap.size,1,none⟩=some _:=hbl5.cell 1;have b2:W5.cell? ⟨w0.heap.size,2,none⟩=some _:=hbl5.cell 2;have b3:W5.cell? ⟨w0.heap.size,3,none⟩=some _:=hbl5.cell 3;rw[hW5];have HW5:=Hd hW5;clear hbl5 hb5 hW5 a0 a1 a2 a3 z0 z1 z2 z3;refine bodyPost_ret (v:=.tuple #[.agg #[.slice po no qo,.int .i64 x.1.2.type,.int .u32 ((Rs.ttl x.1.2 (plE (grp c)[i]):Nat):Int),.slice od (grp c)[i].length cd],.bool true]) (by simp at b0 b1 b2 b3;simp[results,Tryz.results89,go_sem,b0,b1,b2,b3]) rfl ?_
    refine⟨c,_,_,HP.out,HL.out,rfl,?_,HB5.out⟩;unfold ROfV;rw[find_at hlt (fun j hj hji=>HN.out j hj hji) (by rw[HKEY.out];rfl)]
    refine⟨_,rfl,⟨x,xs,po,no,qo,od,cd,HE1.out,rfl,HRO.out,?_⟩,rfl⟩;have hd:=HDA.out.cells_kept (CellsKept.below HBD.out);have hoff:=hd.off (by have:=HE1.out;rw[show (grp c)[i]=x::xs from this];simp) HBKD.out
    have h9:=(((hd.setC hoff 0 (.slice po no qo)).setC hoff 1 (.int .i64 x.1.2.type)).setC hoff 2 (.int .u32 ((Rs.ttl x.1.2 (plE (grp c)[i]):Nat):Int))).setC hoff 3 (.slice od (grp c)[i].length cd);rw[show _=W5 from HW5.out] at h9
    exact h9
end
section
def ownK {w:World} (o:List (List UInt8)):List (El w)->Bool
 | []=>false
 | x::_=>Nm.same x.1.2.owner o
def typK {w:World}:List (El w)->Int
 | []=>0
 | x::_=>x.1.2.type
def tysK {w:World} (o:List (List UInt8)) (ks:List (List (El w))):List Int:=(ks.filter (ownK o)).map typK
def RTyR {w:World} (l:List (El w)) (o:List (List UInt8)) (w0:World) (e:Ending) (w':World):Prop :=
 ∃(c:List (El w)) (v':Value),plE c=Rc.canon (plE l)/\c.length<=l.length/\e=.returned v'/\Sl v' ((tysK o (grp c)).map I64) w'/\Below w0.heap.size w0 w'
end
section
theorem NmsRd.form {v:Value} {ns:List (List (List UInt8))} {W:World} (h:NmsRd v ns W):∃o cap,v=.slice o ns.length cap/\ns.length<=cap/\cap<=9223372036854775807:=by
 obtain⟨us,h1,h2,h3⟩:=h;obtain⟨o,cap,e,h4,h5⟩:=h2.form;exact⟨o,cap,by rw[e,h1],by omega,by unfold maxLen at h5;exact h5⟩
set_option maxHeartbeats 1000000 in
theorem isLen_any (v u:Value) (a b:List (List UInt8)) (w:World) (hv:Rd v a w) (hu:Rd u b w) (ha:a.length<=1000) (hb:b.length<=1000) :
  Calls Tryz.prog 42 #[v,u] w (Gives (.bool (a == b)) w):=by
 obtain⟨o,cap,rfl,h1,h2⟩:=hv.form;obtain⟨o',cap',rfl,h1',h2'⟩:=hu.form;have HC:=Hd hv.cells;have HD:=Hd hu.cells;have na:(a.length:Int)<=1000:=by omega
 have nb:(b.length:Int)<=1000:=by omega
 clear hv hu ha hb;have e0:∀wr W:World,W.heap=wr.heap->∀p,W.cell? p=wr.cell? p:=fun wr W h p=>by unfold World.cell?;rw[h]
 by_cases hab:a.length=b.length
 ·have hab':((a.length:Int) != b.length)=false:=by simp[hab]
  have HAB:=Hd hab;clear hab
  go_enter Tryz.func42,Tryz.ntmps42
  go_wp2
  go_loopw [5] (fun i wr=>∃k:Nat,Nm.isTo a b k/\i=.int .i64 k/\Below w.heap.size w wr) (fun i _=>a.length-(intOf i).toNat)
  case atStart=>exact⟨0,⟨by omega,fun j _ _ h=>by omega⟩,rfl,Below.refl _ _⟩
  case round =>
   obtain⟨k,hto,rfl,hb⟩:=hrel;by_cases hlt:k<a.length
   ·have hlt':k<b.length:=by have:=HAB.out;omega
    obtain⟨x,rfl,e1⟩:=HC.out _ hb k hlt;obtain⟨y,rfl,e2⟩:=HD.out _ hb k hlt';by_cases he:a[k]=b[k]
    ·have HT:=Hd (hto.step hlt hlt' he)
     rw[<-he] at e2;clear hto he;go_wp2_with fail
     go_quiet (fail)
     go_wp2_with fail
     exact⟨⟨k+1,HT.out,by go_num,below_drewN hb _⟩,by simp[intOf];omega⟩
    ·have HF:=Hd (Nm.is_not hlt hlt' he)
     have hs:(a[k] == b[k])=false:=by simpa using he
     clear hto he;go_wp2_with fail
     go_quiet (fail)
     go_wp2_with fail
     go_ret
     exact⟨by rw[HF.out];rfl,below_drewN hb _⟩
   ·have HF:=Hd (hto.done hlt HAB.out)
    go_wp2
    go_ret
    exact⟨by rw[HF.out];rfl,hb⟩
 ·have hab':((a.length:Int) != b.length)=true:=by simp;omega
  have HF:=Hd (Nm.is_len hab)
  go_enter Tryz.func42,Tryz.ntmps42
  go_wp2
  go_ret
  exact⟨by rw[HF.out];rfl,Below.refl _ _⟩
end
section
theorem any_no {α:Type} {p:α->Bool} {l:List α} (h:∀j (hj:j<l.length),p l[j]=false):l.any p=false:=by
 rw[List.any_eq_false];intro x hx;obtain⟨j,hj,rfl⟩:=List.mem_iff_getElem.1 hx;rw[h j hj];exact Bool.false_ne_true
theorem any_at {α:Type} {p:α->Bool} {l:List α} (j:Nat) (hj:j<l.length) (h:p l[j]=true):l.any p=true:=List.any_eq_true.2 ⟨_,List.getElem_mem hj,h⟩
theorem zBox {w0 W1:World} {zo vr:Value} (h:w0.alloc (.cells #[zo,vr] 66)=W1):Below w0.heap.size w0 W1/\Blk w0.heap.size #[zo,vr] 66 W1:=by
 subst h;exact⟨Zr,Blk.new w0 _ _⟩
set_option maxHeartbeats 1000000 in
theorem rHas_any {w w0:World} (po:Option Addr) (no qo:Nat) (vr vn:Value) (l:List (El w)) (n:List (List UInt8)) (t:Int) (hb0:Below w.heap.size w w0) (hv:RecsRd vr (l.map (·.1)) w0) (na:l.length<=1000) (hn:Rd vn n w0) (nn:NB n) :
  Calls Tryz.prog 62 #[.agg #[.slice po no qo,vr],vn,.int .i64 t] w0 (Gives (.bool (Zn.has (plE l) n t)) w0):=by
 obtain⟨on,cn,rfl,_,_⟩:=hn.form;obtain⟨ov,cv,rfl⟩:∃o cap,vr=.slice o l.length cap:=by obtain⟨_,o,cap,h,_⟩:=hv;exact⟨o,cap,by rw[h,Zf]⟩
 obtain⟨W1,hW1⟩:=Zq (w0.alloc (.cells #[.slice po no qo,.slice ov l.length cv] 66));obtain⟨hb1,hbk⟩:=zBox hW1;have HW1:=Hd hW1;have HB1:=Hd hb1;have HBK:=Hd hbk;have HV:=Hd hv.el;have HB0:=Hd hb0;have HN:=Hd hn;have NN:=Hd nn;have lz:(l.length:Int)<=1000:=by omega
 clear hv hb0 hn nn hW1 hb1 hbk;refine (zF (n:=0)).1 ?_;refine callsIn_of_wp Tryz.func62 rfl trivial ?_ rfl;simp only[Tryz.ntmps62,Zo,Ze,Zg,Nat.reduceAdd,Nat.reduceSub,Zi,Zj,Zk,Zl,Zm,Zp];gi_wp2_with fail
 rw[HW1.out];clear HW1
 gi_loopw [7] (fun vi W=>∃i:Nat,i<=l.length/\vi=.int .i64 i/\Hid (∀j (hj:j<(plE l).length),j<i->(((plE l)[j].type == t)&&Nm.same (plE l)[j].owner n)=false)/\Below W1.heap.size W1 W) (fun vi _=>l.length-(intOf vi).toNat)
 case atStart=>exact⟨0,Nat.zero_le _,rfl,fun j _ h=>by omega,Below.refl _ _⟩
 case round =>
  obtain⟨i,hi,rfl,HF,hb⟩:=hrel;have z1:wr.cell? ⟨w0.heap.size,1,none⟩=some (.slice ov l.length cv):=(HBK.out.below hb).cell 1;by_cases hlt:i<l.length
  ·have hiz:(i:Int)<(l.length:Int):=by omega
   obtain⟨x,hx⟩:=Zq (l[i]);obtain⟨p0,n0,q0,p1,n1,q1,p2,n2,q2,p3,n3,q3,p4,n4,q4,ex⟩:=x.cells;obtain⟨ga,rfl,e0,e1,e2,e3,e4,e5,e6⟩:=HV.out _ (Z5 HB1.out hb) i hlt _ _ _ _ _ _ _ (by rw[hx];exact ex)
   obtain⟨ea,hea⟩:=Zq (ga.add (i*7));rw[hea] at e0 e1 e2 e3 e4 e5 e6;have hro:Rd (.slice p0 n0 q0) x.1.2.owner w:=by
    have h:=x.2.1;rw[show x.1.1=_ from ex] at h
    obtain⟨vo,ds,h1,h2,_⟩:=h;cases h1;exact h2
   have hpx:∀h:i<(plE l).length,(plE l)[i]=x.1.2:=fun h=>by rw[plE_get,hx]
   have HSM:=Hd (zC _ _ x.1.2.owner n wr (hro.below (Z5 HB0.out (Z5 HB1.out hb))) (HN.out.below (Z5 HB1.out hb)) x.2.2.owner NN.out);obtain⟨z,hz⟩:=Zq (Nm.same x.1.2.owner n);obtain⟨b,hbt⟩:=Zq ((x.1.2.type == t));rw[hz] at HSM;have HPX:=Hd hpx;have HZ:=Hd hz;have HBT:=Hd hbt;have HB:=Hd hb;have HNX:Hid ((b&&z)=false->∀j (hj:j<(plE l).length),j<i+1->(((plE l)[j].type == t)&&Nm.same (plE l)[j].owner n)=false):=fun hbz j hj hji=>by
    by_cases hjl:j<i
    ·exact HF.out j hj hjl
    ·obtain rfl:j=i:=by omega
     rw[HPX.out hj,HZ.out,HBT.out];exact hbz
   clear hx ex hro hpx hz hb;cases b with
   | false =>
    gi_wp2_with fail
    exact⟨⟨i+1,hlt,by go_num,HNX.out rfl,HB.out⟩,by simp[intOf]<;>omega⟩
   | true =>
    gi_wp2_with fail
    refine (callsIn_wide.2 HSM.out).mono ?_;rintro e9 wd ⟨rfl,b9⟩;have HBD:=Hd (Z5 HB.out b9);clear b9 e0 e1 e2 e3 e4 e5 e6 z1 HSM;cases z with
    | false =>
     gi_wp2_with fail
     exact⟨⟨i+1,hlt,by go_num,HNX.out rfl,HBD.out⟩,by simp[intOf]<;>omega⟩
    | true =>
     gi_wp2_with fail
     go_ret
     have hpl:i<(plE l).length:=by rw[zH];exact hlt
     have hh:Zn.has (plE l) n t=true:=any_at i hpl (by rw[HPX.out hpl,HZ.out,HBT.out];rfl)
     rw[hh];exact⟨rfl,Z5 HB1.out HBD.out⟩
  ·have hiz:¬((i:Int)<(l.length:Int)):=by omega
   have HB:=Hd hb;clear hb;gi_wp2_with fail
   go_ret
   have hh:Zn.has (plE l) n t=false:=any_no fun j hj=>HF.out j hj (by rw[zH] at hj;omega)
   rw[hh];exact⟨rfl,Z5 HB1.out HB.out⟩
def RCutR (o:Zn.Nam) (L:List Rc.PRec) (n:Zn.Nam) (w:World) (e:Ending) (w':World):Prop :=
 ∃v,e=.returned (.tuple #[v,.bool (Zn.isCut o L n)])/\Rd v (Zn.cut o L n) w'/\Below w.heap.size w w'
set_option maxHeartbeats 1000000 in
theorem rCutOf_any {w w0:World} (vo vr vn:Value) (l:List (El w)) (o n:List (List UInt8)) (hb0:Below w.heap.size w w0) (hv:RecsRd vr (l.map (·.1)) w0) (na:l.length<=1000) (ho:Rd vo o w0) (no:NB o) (hn:Rd vn n w0) (nn:NB n) :
  Calls Tryz.prog 88 #[.agg #[vo,vr],vn] w0 (RCutR o (plE l) n w0):=by
 obtain⟨on,cn,rfl,_,_⟩:=hn.form;obtain⟨oo,co,rfl,_,_⟩:=ho.form;obtain⟨ov,cv,rfl⟩:∃o cap,vr=.slice o l.length cap:=by obtain⟨_,o,cap,h,_⟩:=hv;exact⟨o,cap,by rw[h,Zf]⟩
 obtain⟨W1,hW1⟩:=Zq (w0.alloc (.cells #[.slice oo o.length co,.slice ov l.length cv] 66));obtain⟨hb1,hbk⟩:=zBox hW1;have HB1:=Hd hb1;have HBK:=Hd hbk;have HN:=Hd hn;have HO:=Hd ho;have HHAS:Hid (∀W',Below W1.heap.size W1 W'->∀(v:Value) (m:List (List UInt8)),Rd v m W'->NB m->Calls Tryz.prog 62 #[.agg #[.slice oo o.length co,.slice ov l.length cv],v,.int .i64 2] W' (Gives (.bool (Zn.has (plE l) m 2)) W')):=fun W' hW v m hm nm =>
  rHas_any oo o.length co _ v l m 2 (Z5 hb0 (Z5 hb1 hW)) (hv.kept (Z5 hb1 hW)) na hm nm
 have HU:=Hd (refUnder_any _ _ n o W1 (hn.below hb1) (ho.below hb1) nn no);obtain⟨u,hu⟩:=Zq (Nm.under n o);rw[hu] at HU;have HUU:=Hd hu;have NN:=Hd nn;have ln:n.length<=1000:=nn.1;have lo:o.length<=1000:=no.1;have z0:W1.cell? ⟨w0.heap.size,0,none⟩=some (.slice oo o.length co):=hbk.cell 0;clear hv hb0 hn nn hb1 hbk ho no hu na;refine (zF (n:=0)).1 ?_;refine callsIn_of_wp Tryz.func88 rfl trivial ?_ rfl;simp only[Tryz.ntmps88,Zo,Ze,Zg,Nat.reduceAdd,Nat.reduceSub,Zi,Zj,Zk,Zl,Zm,Zp];gi_wp2_with fail
 refine (callsIn_wide.2 HU.out).mono ?_;rintro e9 wd ⟨rfl,b9⟩;have HBD:=Hd b9;have z1:wd.cell? ⟨w0.heap.size,0,none⟩=some (.slice oo o.length co):=(HBK.out.below b9).cell 0;clear z0 b9 HU hW1;cases u with
 | false =>
  gi_wp2_with fail
  go_ret2
  have hn':Zn.cutAt o (plE l) n=none:=by unfold Zn.cutAt;rw[if_neg (by rw[HUU.out];exact Bool.false_ne_true)]
  obtain⟨q1,q2⟩:=Zn.cut_none hn';exact⟨.slice none 0 0,by first|(rw[q1];done)|(rw[q1];rfl),by rw[q2];exact Rd.nil _,Z5 HB1.out HBD.out⟩
 | true =>
  have hle:=Nm.under_le' HUU.out;have hlez:(o.length:Int)<=(n.length:Int):=by omega
  have HCA:=Hd (Zn.cutAt_ref (L:=plE l) HUU.out);gi_wp2_with fail
  clear z1
  gi_loopw [6] (fun vi W=>∃i:Nat,i<=n.length-o.length/\vi=.int .i64 ((i:Int)-1)/\Hid (Zn.cutAt o (plE l) n=Zn.cutF o.length (plE l) n i)/\Below W1.heap.size W1 W) (fun vi _=>(intOf vi+1).toNat)
  case atStart=>exact⟨n.length-o.length,Zh _,by go_num,HCA.out,HBD.out⟩
  case round =>
   obtain⟨i,hi,rfl,HF,hb⟩:=hrel;have z0:wr.cell? ⟨w0.heap.size,0,none⟩=some (.slice oo o.length co):=(HBK.out.below hb).cell 0;have z1:wr.cell? ⟨w0.heap.size,1,none⟩=some (.slice ov l.length cv):=(HBK.out.below hb).cell 1;cases i with
   | zero =>
    have HB:=Hd hb;clear hb z0 z1;gi_wp2_with fail
    go_ret2
    obtain⟨q1,q2⟩:=Zn.cut_none (show Zn.cutAt o (plE l) n=none by rw[HF.out];rfl)
    exact⟨.slice none 0 0,by first|(rw[q1];done)|(rw[q1];rfl),by rw[q2];exact Rd.nil _,Z5 HB1.out HB.out⟩
   | succ k =>
    have hkz:(0:Int)<=(k:Int):=by omega
    have hkn:k<=n.length:=by omega
    have hkz2:(k:Int)<=(n.length:Int):=by omega
    have e1:((k+1:Nat):Int)-1=(k:Int):=by omega
    rw[e1];have hcn:n.length<=cn:=by obtain⟨_,_,e,h1,_⟩:=HN.out;cases e;exact h1
    have hck:¬(cn=k):=by omega
    have hkl:k+o.length<n.length:=by omega
    have hrd:=(HN.out.below (Z5 HB1.out hb)).tail k hkn;have hnd:NB (n.drop k):=NN.out.drop k;obtain⟨z,hz⟩:=Zq (Zn.has (plE l) (n.drop k) 2);have HHK:Hid (∀W',Below W1.heap.size W1 W'->Calls Tryz.prog 62 #[.agg #[.slice oo o.length co,.slice ov l.length cv],.slice (on.map (·.add k)) (n.length-k) (cn-k),.int .i64 2] W' (Gives (.bool z) W')):=fun W' hW=>by
     have h:=HHAS.out W' hW _ (n.drop k) ((HN.out.below (Z5 HB1.out hW)).tail k hkn) hnd;rw[hz] at h;exact h
    have HCS:Hid (∀W',Below W1.heap.size W1 W'->Cs [(⟨w0.heap.size,0,none⟩,.slice oo o.length co),(⟨w0.heap.size,1,none⟩,.slice ov l.length cv)] W'):=fun W' hW=>⟨(HBK.out.below hW).cell 0,(HBK.out.below hW).cell 1,trivial⟩
    have HRD:=Hd hrd;have HZ:=Hd hz;have HB:=Hd hb;have HKL:=Hd hkl;clear hb e1 hrd hnd hz z0 z1 hkl;gi_wp2_with fail
    refine Z8 [0] (Cs [(⟨w0.heap.size,0,none⟩,.slice oo o.length co),(⟨w0.heap.size,1,none⟩,.slice ov l.length cv)]) 5 rfl (by kernel_rfl) ?_
    intro wa hwa;have HBA:Hid (Below W1.heap.size W1 wa):=by subst hwa;exact HB.out.drew
    have hS:=HCS.out wa HBA.out;clear hwa;refine tB 1 ?_;refine tB 2 ?_;refine tB 3 ?_;simp only[Act.put,Za,Zd,Zc];refine tA 0 hS ?_;simp only[Act.put,Za,Zd,Zc];refine oneH 4 (by rfl) (by kernel_rfl) (fun K hK=>?_)
    gi_wp2_with (gi_at_call 62;refine (callsIn_wide.2 (HHK.out wa HBA.out)).mono ?_;rintro e9 wb ⟨rfl,b9⟩)
    have HBB:=Hd (Z5 HBA.out b9);refine hK _ _ (fun h=>absurd h (by decide)) ?_
    clear hK K b9 hS;refine Z9 (by kernel_rfl) ?_
    cases z with
    | true =>
     gi_wp2_with fail
     go_ret2
     obtain⟨q1,q2⟩:=Zn.cut_some (show Zn.cutAt o (plE l) n=some k by rw[HF.out];exact Zn.cutF_hit (by simp;have:=HKL.out;omega) HZ.out)
     exact⟨.slice (on.map (·.add k)) (n.length-k) (cn-k),by first|(rw[q1];done)|(rw[q1];rfl),by rw[q2];exact (HN.out.below (Z5 HB1.out HBB.out)).tail k hkn,Z5 HB1.out HBB.out⟩
    | false =>
     gi_wp2_with fail
     exact⟨⟨k,by omega,by go_num,by rw[HF.out];exact Zn.cutF_go HKL.out HZ.out,HBB.out⟩,by simp[intOf]<;>omega⟩
set_option maxHeartbeats 1000000 in
theorem rWhere_any {w w0:World} (vo vr vn:Value) (l:List (El w)) (o n:List (List UInt8)) (hb0:Below w.heap.size w w0) (hv:RecsRd vr (l.map (·.1)) w0) (na:l.length<=1000) (ho:Rd vo o w0) (no:NB o) (hn:Rd vn n w0) (nn:NB n) :
  Calls Tryz.prog 59 #[.agg #[vo,vr],vn] w0 (Gives (.int .i64 (Zn.wher o (plE l) n)) w0):=by
 obtain⟨on,cn,rfl,_,_⟩:=hn.form;obtain⟨oo,co,rfl,_,_⟩:=ho.form;obtain⟨ov,cv,rfl⟩:∃o cap,vr=.slice o l.length cap:=by obtain⟨_,o,cap,h,_⟩:=hv;exact⟨o,cap,by rw[h,Zf]⟩
 obtain⟨W1,hW1⟩:=Zq (w0.alloc (.cells #[.slice oo o.length co,.slice ov l.length cv] 66));obtain⟨hb1,hbk⟩:=zBox hW1;have HB1:=Hd hb1;have HBK:=Hd hbk;have HU:=Hd (refUnder_any _ _ n o W1 (hn.below hb1) (ho.below hb1) nn no);have HC:Hid (∀W',Below W1.heap.size W1 W'->Calls Tryz.prog 88 #[.agg #[.slice oo o.length co,.slice ov l.length cv],.slice on n.length cn] W' (RCutR o (plE l) n W')):=fun W' hW =>
  rCutOf_any _ _ _ l o n (Z5 hb0 (Z5 hb1 hW)) (hv.kept (Z5 hb1 hW)) na (ho.below (Z5 hb1 hW)) no (hn.below (Z5 hb1 hW)) nn
 obtain⟨u,hu⟩:=Zq (Nm.under n o);rw[hu] at HU;have HUU:=Hd hu;have ln:n.length<=1000:=nn.1;have z0:W1.cell? ⟨w0.heap.size,0,none⟩=some (.slice oo o.length co):=hbk.cell 0;clear hv hb0 hn nn hb1 hbk ho no hu na;refine (zF (n:=0)).1 ?_;refine callsIn_of_wp Tryz.func59 rfl trivial ?_ rfl;simp only[Tryz.ntmps59,Zo,Ze,Zg,Nat.reduceAdd,Nat.reduceSub,Zi,Zj,Zk,Zl,Zm,Zp];gi_wp2_with fail
 refine (callsIn_wide.2 HU.out).mono ?_;rintro e9 wd ⟨rfl,b9⟩;have HBD:=Hd b9;have z1:wd.cell? ⟨w0.heap.size,0,none⟩=some (.slice oo o.length co):=(HBK.out.below b9).cell 0;have z2:wd.cell? ⟨w0.heap.size,1,none⟩=some (.slice ov l.length cv):=(HBK.out.below b9).cell 1;clear z0 b9 HU hW1;cases u with
 | false =>
  gi_wp2_with fail
  go_ret
  have hn':Zn.wher o (plE l) n=0:=by unfold Zn.wher;rw[if_neg (by rw[HUU.out];exact Bool.false_ne_true)]
  rw[hn'];exact⟨rfl,Z5 HB1.out HBD.out⟩
 | true =>
  gi_wp2_with fail
  refine (callsIn_wide.2 (HC.out wd HBD.out)).mono ?_;rintro e9 we ⟨v,rfl,hr,b9⟩;obtain⟨oc,cc,rfl,_,_⟩:=hr.form;have HBE:=Hd (Z5 HBD.out b9);clear b9 z1 z2 hr HC;cases hca:Zn.cutAt o (plE l) n with
  | none =>
   obtain⟨q1,q2⟩:=Zn.cut_none hca;rw[q1,q2];have hw:Zn.wher o (plE l) n=1:=Zn.wher_none HUU.out hca;have HW:=Hd hw;clear hw hca q1 q2;gi_wp2_with fail
   go_ret
   exact⟨by rw[HW.out];rfl,Z5 HB1.out HBE.out⟩
  | some k =>
   obtain⟨q1,q2⟩:=Zn.cut_some hca;obtain⟨c,hc⟩:=Zq (Zn.cut o (plE l) n);have hcl:c.length<=n.length:=by rw[<-hc,q2];simp
   have hw:Zn.wher o (plE l) n=if c.length=n.length then 2 else 3:=by
    rw[<-hc,q2];unfold Zn.wher;rw[if_pos HUU.out,hca]
   rw[q1,hc];have HW:=Hd hw;have hclz:(c.length:Int)<=1000:=by omega
   have hnlz:(n.length:Int)<=1000:=by omega
   clear hw hca q1 q2 hc;by_cases he:c.length=n.length
   ·have hez:(c.length:Int)=(n.length:Int):=by omega
    have HE:=Hd he;clear he;gi_wp2_with fail
    go_ret
    exact⟨by rw[HW.out,if_pos HE.out];rfl,Z5 HB1.out HBE.out⟩
   ·have hez:¬((c.length:Int)=(n.length:Int)):=by omega
    have HE:=Hd he;clear he;gi_wp2_with fail
    go_ret
    exact⟨by rw[HW.out,if_neg HE.out];rfl,Z5 HB1.out HBE.out⟩
end
section

end
end Go.Proofs.YtgmbefolgppmdaaGreat
