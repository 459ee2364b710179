/- Sets of records: where a set leads to: the walk. -/
import Derived.Test.YtgmbefolgppmdaaGreatLGdB
import Derived.Test.YtgmbefolgppmdaaGreatLAli
import Derived.Test.YtgmbefolgppmdaaGreatLRcO
import Derived.Test.YtgmbefolgppmdaaGreatLReg
namespace Go.Proofs.YtgmbefolgppmdaaGreat
set_option maxRecDepth 100000
section
open Go.RowKit Go.Shelf Go.Sort
theorem DatsRd.el {w:World} {o:Option Addr} {n cap:Nat} {l:List (El w)} {W:World} (h:DatsRd (.slice o n cap) l W):∀W',Below W.heap.size W W'->∀(i:Nat) (hi:i<l.length) (c0 c1 c2 c3 c4:Value),encD l[i]=[c0,c1,c2,c3,c4]->∃a,o=some a /\
  W'.cell? (a.add (i*5))=some c0/\W'.cell? ⟨(a.add (i*5)).block,(a.add (i*5)).off+1,none⟩=some c1/\W'.cell? ⟨(a.add (i*5)).block,(a.add (i*5)).off+2,none⟩=some c2/\W'.cell? ⟨(a.add (i*5)).block,(a.add (i*5)).off+3,none⟩=some c3/\W'.cell? ⟨(a.add (i*5)).block,(a.add (i*5)).off+4,none⟩=some c4:=by
 intro W' hb i hi c0 c1 c2 c3 c4 hx;obtain⟨a,ha,h0,h1⟩:=(h.grd.below hb).at (by decide) i (by simpa using hi)
 simp only[List.getElem_map,hx] at h0 h1;exact⟨a,ha,h0,h1 1 (by decide) (by decide),h1 2 (by decide) (by decide),h1 3 (by decide) (by decide),h1 4 (by decide) (by decide)⟩
theorem Rs.leads_cases {t:Int} (h:Rs.leads t=true):t=2\/t=5\/t=12\/t=39\/t=15:=by
 simp only[Rs.leads,Bool.or_eq_true,beq_iff_eq] at h;omega
theorem Rs.leads_not {t:Int} (h:Rs.leads t=false):(t == 2)=false/\(t == 5)=false/\(t == 12)=false/\(t == 39)=false/\(t == 15)=false:=by
 simp only[Rs.leads,Bool.or_eq_false_iff,beq_eq_false_iff_ne] at h;simp[h]
set_option maxHeartbeats 1000000 in
theorem clipNms_any (v:Value) (xs:List Value) (ns:List (List (List UInt8))) (R:Nat->Prop) (w:World) (hrow:Row R 38 1 v xs.length xs w) (hx:xs.length=ns.length) (hr:∀i (h:i<xs.length) (h':i<ns.length),Rd xs[i] ns[i] w) (hn:xs.length<=1000000) :
  Calls Tryz.prog 37 #[v] w fun e w'=>∃v',e=.returned v'/\NmsRd v' ns w/\w'=w:=by
 obtain⟨o,cap,rfl,h1,h2,h3,h4⟩:=Row.sl hrow;have h2':=h2;unfold maxLen at h2;have n1:(xs.length:Int)<=1000000:=by omega
 have HO:=Hd (show o=none->xs.length=0 from fun h=>by have:=h3 h;omega)
 have H4:=Hd h4;have H2:=Hd h2';have HX:=Hd hx;have HR:=Hd hr;clear h3 h4 hrow h2' hx hr
 go_enter Tryz.func37,Tryz.ntmps37
 go_wp2_with fail
 go_ret
 exact⟨.slice o xs.length xs.length,rfl,⟨xs,HX.out,⟨o,xs.length,rfl,Zh _,by have:=H2.out;omega,HO.out,H4.out⟩,HR.out⟩,rfl⟩
end
section
open Go.RowKit Go.Shelf Go.Sort
namespace Rs
open Rc
def sameDats:List PRec->List PRec->Bool
 | [],[]=>true
 | x::a,y::b=>(cmpD x y == 0)&&sameDats a b
 | _,_=>false
theorem sameDats_len:∀{a b:List PRec},a.length≠b.length->sameDats a b=false
 | [],[],h=>absurd rfl h
 | [],_::_,_=>rfl
 | _::_,[],_=>rfl
 | x::a,y::b,h=>by rw[sameDats,sameDats_len (a:=a) (b:=b) (by simpa using h),Bool.and_false]
end Rs
set_option maxHeartbeats 1000000 in
theorem rdSame_any (va vb:List Value) (a b:Rc.PRec) (w:World) (ha:DatRd va a w) (hb:DatRd vb b w) (na:RB a) (nb:RB b) :
  Calls Tryz.prog 111 #[.agg va.toArray,.agg vb.toArray] w (Gives (.bool (Rc.cmpD a b == 0)) w):=by
 have HA:=Hd ha;have HB:=Hd hb;obtain⟨an,am,at',ar,rfl,_⟩:=ha;obtain⟨bn,bm,bt,br,rfl,_⟩:=hb;have NA:=Hd na;have NB':=Hd nb;clear na nb;have hz:∀z:Int,(decide (z=0))=(z == 0):=fun z=>by by_cases h:z=0<;>simp[h]
 go_enter Tryz.func111,Tryz.ntmps111
 go_wp2_with fail
 refine (rdCompare_any [.int .i64 a.type,an,am,at',ar] [.int .i64 b.type,bn,bm,bt,br] a b _ (HA.out.below ((Zr).alloc (by simp) _)) (HB.out.below ((Zr).alloc (by simp) _)) NA.out NB'.out).mono ?_
 rintro e w1 ⟨rfl,b1⟩;have hb1:=(((Below.refl w.heap.size w).alloc (Zh _) _).alloc (by simp) _).trans (b1.mono (by simp;omega))
 go_wp2_with fail
 go_ret
 exact⟨by first|rfl|simp[hz],hb1⟩
set_option maxHeartbeats 1000000 in
theorem equalDat_any {w w0:World} (v u:Value) (a b:List (El w)) (hb0:Below w.heap.size w w0) (hv:DatsRd v a w0) (hu:DatsRd u b w0) (na:a.length<=1000) (_nb:b.length<=1000) :
  Calls Tryz.prog 110 #[v,u,.func (.func 111) #[] #[]] w0 (Gives (.bool (Rs.sameDats (plE a) (plE b))) w0):=by
 obtain⟨o,cap,rfl,_,_⟩:=hv.form;obtain⟨o',cap',rfl,_,_⟩:=hu.form;have HB0:=Hd hb0;have HV:=Hd hv.el;have HU:=Hd hu.el;clear hv hu hb0;by_cases hab:a.length=b.length
 ·have h1:((a.length:Int) != b.length)=false:=by simp[hab]
  have na':(a.length:Int)<=1000:=by omega
  have HAB:=Hd hab;clear hab na _nb
  go_enter Tryz.func110,Tryz.ntmps110
  go_wp2
  go_loopw [17] (fun i wr=>∃k:Nat,Hid (k<=a.length/\Rs.sameDats (plE a) (plE b)=Rs.sameDats (plE (a.drop k)) (plE (b.drop k)))/\i=.int .i64 k/\Below w0.heap.size w0 wr) (fun i _=>a.length-(intOf i).toNat)
  case atStart=>exact⟨0,⟨by omega,rfl⟩,rfl,Below.refl _ _⟩
  case round =>
   obtain⟨k,hto,rfl,hb⟩:=hrel;by_cases hlt:k<a.length
   ·have hltz:(k:Int)<(a.length:Int):=by omega
    have hltz2:(k:Int)<(b.length:Int):=by have:=HAB.out;omega
    obtain⟨x,hx⟩:=Zq (a[k]);obtain⟨y,hy⟩:∃y,b[k]'(by have:=HAB.out;omega)=y:=⟨_,rfl⟩
    obtain⟨us,p1,q1,p2,n2,q2,p3,n3,q3,p4,n4,q4,ex,_,_,_,dx⟩:=x.data;obtain⟨vs,r1,t1,r2,k2,t2,r3,k3,t3,r4,k4,t4,ey,_,_,_,dy⟩:=y.data;obtain⟨ga,rfl,e0,e1,e2,e3,e4⟩:=HV.out _ hb k hlt _ _ _ _ _ (by rw[hx];exact ex)
    obtain⟨gb,rfl,f0,f1,f2,f3,f4⟩:=HU.out _ hb k (by have:=HAB.out;omega) _ _ _ _ _ (by rw[hy];exact ey)
    obtain⟨n1,hn1⟩:=Zq us.length;obtain⟨k1,hk1⟩:=Zq vs.length;rw[hn1] at ex e1;rw[hk1] at ey f1;have F:∀ob:Obj,(wr.alloc ob).cell? (gb.add (k*5))=some (.int .i64 y.1.2.type)/\(wr.alloc ob).cell? ⟨(gb.add (k*5)).block,(gb.add (k*5)).off+1,none⟩=some (.slice r1 k1 t1)/\(wr.alloc ob).cell? ⟨(gb.add (k*5)).block,(gb.add (k*5)).off+2,none⟩=some (.slice r2 k2 t2)/\(wr.alloc ob).cell? ⟨(gb.add (k*5)).block,(gb.add (k*5)).off+3,none⟩=some (.slice r3 k3 t3)/\(wr.alloc ob).cell? ⟨(gb.add (k*5)).block,(gb.add (k*5)).off+4,none⟩=some (.slice r4 k4 t4):=fun ob=>by
     obtain⟨a',ha',h⟩:=HU.out (wr.alloc ob) (hb.alloc hb.size ob) k (by have:=HAB.out;omega) _ _ _ _ _ (by rw[hy];exact ey)
     cases ha';exact h
    have F0:=fun ob=>(F ob).1
    have F1:=fun ob=>(F ob).2.1
    have F2:=fun ob=>(F ob).2.2.1
    have F3:=fun ob=>(F ob).2.2.2.1
    have F4:=fun ob=>(F ob).2.2.2.2
    have HX:=Hd ex;have HY:=Hd ey;have HZ:Hid (Rs.sameDats (plE (a.drop k)) (plE (b.drop k))=((Rc.cmpD x.1.2 y.1.2 == 0)&&Rs.sameDats (plE (a.drop (k+1))) (plE (b.drop (k+1))))):=by
     show _=_;rw[Zy hlt,Zy (show k<b.length by have:=HAB.out;omega),hx,hy];rfl
    clear hx hy HV HU F f0 f1 f2 f3 f4 hn1 hk1;have HRX:Hid (DatRd [.int .i64 x.1.2.type,.slice p1 n1 q1,.slice p2 n2 q2,.slice p3 n3 q3,.slice p4 n4 q4] x.1.2 w):=by show DatRd _ _ _;rw[<-ex];exact dx
    have HRY:Hid (DatRd [.int .i64 y.1.2.type,.slice r1 k1 t1,.slice r2 k2 t2,.slice r3 k3 t3,.slice r4 k4 t4] y.1.2 w):=by show DatRd _ _ _;rw[<-ey];exact dy
    clear dx dy ex ey;have HBW:Hid (∀o1 o2,Below w.heap.size w ((wr.alloc o1).alloc o2)):=fun o1 o2=>Z5 HB0.out ((hb.alloc hb.size _).alloc (by have:=hb.size;simp;omega) _)
    have HBV:Hid (∀o1 o2,Below w0.heap.size w0 ((wr.alloc o1).alloc o2)):=fun o1 o2=>(hb.alloc hb.size _).alloc (by have:=hb.size;simp;omega) _
    obtain⟨bz,hz⟩:=Zq ((Rc.cmpD x.1.2 y.1.2 == 0));have HSZ:=Hd hz;clear hz;cases bz with
    | true =>
     go_wp2_with fail
     refine (rdSame_any [.int .i64 x.1.2.type,.slice p1 n1 q1,.slice p2 n2 q2,.slice p3 n3 q3,.slice p4 n4 q4] [.int .i64 y.1.2.type,.slice r1 k1 t1,.slice r2 k2 t2,.slice r3 k3 t3,.slice r4 k4 t4] x.1.2 y.1.2 _ (HRX.out.below (HBW.out _ _)) (HRY.out.below (HBW.out _ _)) x.2.2 y.2.2).mono ?_;rintro e w3 ⟨rfl,b3⟩;rw[HSZ.out];have hb3:=Hd (Z5 (HBV.out _ _) b3);clear b3;go_wp2_with fail
     refine⟨⟨k+1,⟨hlt,?_⟩,by go_num,hb3.out⟩,by simp[intOf];omega⟩
     rw[hto.out.2,HZ.out,HSZ.out,Bool.true_and]
    | false =>
     go_wp2_with fail
     refine (rdSame_any [.int .i64 x.1.2.type,.slice p1 n1 q1,.slice p2 n2 q2,.slice p3 n3 q3,.slice p4 n4 q4] [.int .i64 y.1.2.type,.slice r1 k1 t1,.slice r2 k2 t2,.slice r3 k3 t3,.slice r4 k4 t4] x.1.2 y.1.2 _ (HRX.out.below (HBW.out _ _)) (HRY.out.below (HBW.out _ _)) x.2.2 y.2.2).mono ?_;rintro e w3 ⟨rfl,b3⟩;rw[HSZ.out];have hb3:=Hd (Z5 (HBV.out _ _) b3);clear b3;go_wp2_with fail
     go_ret
     exact⟨by rw[hto.out.2,HZ.out,HSZ.out];rfl,hb3.out⟩
   ·have hltz:¬((k:Int)<(a.length:Int)):=by omega
    have HF:Hid (Rs.sameDats (plE a) (plE b)=true):=by
     show _=_;rw[hto.out.2,Zz (l:=a) (by omega),Zz (l:=b) (by have:=HAB.out;omega)];rfl
    go_wp2
    go_ret
    exact⟨by rw[HF.out];rfl,hb⟩
 ·have h1:((a.length:Int) != b.length)=true:=by simp;omega
  have HF:Hid (Rs.sameDats (plE a) (plE b)=false):=Rs.sameDats_len (by simpa[plE] using hab)
  go_enter Tryz.func110,Tryz.ntmps110
  go_wp2
  go_ret
  exact⟨by rw[HF.out];rfl,Below.refl _ _⟩
set_option maxHeartbeats 1000000 in
theorem setEqual_any {w w0:World} (po:Option Addr) (no qo:Nat) (t:Int) (tt:Nat) (pp:Option Addr) (np qp:Nat) (s:Int) (ss:Nat) (v u:Value) (a b:List (El w)) (hb0:Below w.heap.size w w0) (hv:DatsRd v a w0) (hu:DatsRd u b w0) (na:a.length<=1000) (nb:b.length<=1000) :
  Calls Tryz.prog 85 #[.agg #[.slice po no qo,.int .i64 t,.int .u32 (tt:Int),v],.agg #[.slice pp np qp,.int .i64 s,.int .u32 (ss:Int),u]] w0 (Gives (.bool (Rs.sameDats (plE a) (plE b))) w0):=by
 obtain⟨o,cap,rfl,_,_⟩:=hv.form;obtain⟨o',cap',rfl,_,_⟩:=hu.form;have HB2:Hid (∀o1 o2,Below w0.heap.size w0 ((w0.alloc o1).alloc o2)):=fun o1 o2=>(Zr).alloc (by simp) _
 have HC:=Hd (fun o1 o2=>equalDat_any (w0:=(w0.alloc o1).alloc o2) _ _ a b (Z5 hb0 (HB2.out o1 o2)) (hv.below (HB2.out o1 o2)) (hu.below (HB2.out o1 o2)) na nb)
 clear hv hu hb0
 go_enter Tryz.func85,Tryz.ntmps85
 go_wp2_with fail
 refine (HC.out _ _).mono ?_;rintro e w1 ⟨rfl,b1⟩;have hb1:=Z5 (HB2.out _ _) b1;go_wp2_with fail
 go_ret
 exact⟨rfl,hb1⟩
end
section
open Go.RowKit Go.Shelf Go.Sort
attribute [local go_sem] Oper.semAt_some
def grpE {w:World}:Nat->List (El w)->List (List (El w))
 | 0,_=>[]
 | _,[]=>[]
 | f+1,x::l=>(x::l).take (Rs.run x.1.2 (plE (x::l)))::grpE f ((x::l).drop (Rs.run x.1.2 (plE (x::l))))
def grp {w:World} (l:List (El w)):List (List (El w)):=grpE l.length l
theorem run_posE {w:World} (x:El w) (l:List (El w)):0<Rs.run x.1.2 (plE (x::l)):=Rs.run_pos _ _
theorem grpE_fuel {w:World}:∀(f m:Nat) (l:List (El w)),l.length<=f->l.length<=m->grpE f l=grpE m l
 | 0,m,l,h,_=>by
  have:l=[]:=List.length_eq_zero_iff.1 (by omega)
  subst this;cases m<;>rfl
 | f+1,m,[],_,_=>by cases m<;>rfl
 | f+1,0,x::l,_,h=>by simp at h
 | f+1,m+1,x::l,h,h'=>by
  have hp:=run_posE x l;have h1:((x::l).drop (Rs.run x.1.2 (plE (x::l)))).length<=l.length:=by rw[List.length_drop,Ze];omega
  simp only[Ze] at h h';show _::grpE f _=_::grpE m _;rw[grpE_fuel f m _ (Nat.le_trans h1 (by omega)) (Nat.le_trans h1 (by omega))]
theorem grp_cons {w:World} (x:El w) (l:List (El w)):grp (x::l)=(x::l).take (Rs.run x.1.2 (plE (x::l)))::grp ((x::l).drop (Rs.run x.1.2 (plE (x::l)))):=by
 have hp:=run_posE x l;show _::grpE l.length _=_::grpE _ _;rw[grpE_fuel l.length _ _ (by rw[List.length_drop,Ze];omega) (Zh _)]
def SetC {w:World} (cs:List Value) (k:List (El w)) (W:World):Prop :=
 ∃x xs po no qo od cd,k=x::xs/\cs=[.slice po no qo,.int .i64 x.1.2.type,.int .u32 ((Rs.ttl x.1.2 (plE k):Nat):Int),.slice od k.length cd]/\Rd (.slice po no qo) x.1.2.owner w/\DatsRd (.slice od k.length cd) k W
theorem SetC.keep {w:World} {cs:List Value} {k:List (El w)} {W W':World} (h:SetC cs k W) (hk:CellsKept W W'):SetC cs k W':=by
 obtain⟨x,xs,po,no,qo,od,cd,h1,h2,h3,h4⟩:=h;exact⟨x,xs,po,no,qo,od,cd,h1,h2,h3,h4.cells_kept hk⟩
def SetsRd {w:World} (v:Value) (ks:List (List (El w))) (W:World):Prop :=
 ∃css,GRd 4 v css W/\css.length=ks.length/\∀i (h:i<css.length) (h':i<ks.length),SetC css[i] ks[i] W
theorem SetsRd.below {w:World} {v:Value} {ks:List (List (El w))} {W W':World} (h:SetsRd v ks W) (hb:Below W.heap.size W W'):SetsRd v ks W':=by
 obtain⟨css,h1,h2,h3⟩:=h;exact⟨css,h1.below hb,h2,fun i hi hi'=>(h3 i hi hi').keep (CellsKept.below hb)⟩
theorem info_set:(Tryz.prog.info? 89).map (fun i=>(i.zero,i.size,i.bytes))=some (some (.agg #[.slice none 0 0,.int .i64 0,.int .u32 0,.slice none 0 0]),4,64):=by kernel_rfl
theorem SetC.ok {w:World} {cs:List Value} {k:List (El w)} {W:World} (h:SetC cs k W):cs.length=4/\∀u∈cs,u.oneCell'=true:=by
 obtain⟨x,xs,po,no,qo,od,cd,h1,rfl,h3,h4⟩:=h;refine⟨rfl,fun u hu=>?_⟩
 simp only[List.mem_cons,List.not_mem_nil,or_false] at hu;rcases hu with rfl|rfl|rfl|rfl<;>rfl
def SetT {w:World} (bl:Nat) (cs:List Value) (k:List (El w)) (W:World):Prop :=
 SetC cs k W/\∀po t tt od n cd,cs=[po,t,tt,.slice od n cd]->∀a,od=some a->bl<a.block/\∃cur f,W.heap[a.block]? = some (.cells cur 107 f)
def DatKept (bl:Nat) (W W':World):Prop:=∀(k:Nat) (c:Array Value) (f:Nat × Nat),bl<k->W.heap[k]? = some (Obj.cells c 107 f)->W'.heap[k]? = some (Obj.cells c 107 f)
theorem DatKept.of_cells {bl:Nat} {W W':World} (h:CellsKept W W'):DatKept bl W W':=fun k c f _ hk=>h k c _ f hk
theorem DatKept.trans {bl:Nat} {A B C:World} (h:DatKept bl A B) (k:DatKept bl B C):DatKept bl A C:=fun i c f hi hk=>k i c f hi (h i c f hi hk)
theorem DatKept.grown {bl:Nat} {W W':World} {row:Option Nat} (h:W.grownBy W' row) (hr:∀g,row=some g->g<=bl\/∃c t f,W.heap[g]? = some (.cells c t f)/\t≠107):DatKept bl W W':=fun k c f hk0 hk=>by
 refine (h.block k (Array.getElem?_eq_some_iff.1 hk).1 (fun e=>?_)).trans hk
 rcases hr k e.symm with h0|⟨c',t,f',h1,h2⟩
 ·omega
 ·rw[h1] at hk;cases hk;exact h2 rfl
theorem DatKept.set {bl b o:Nat} (hb:b<=bl) (W:World) (u:Value):DatKept bl W (W.setCell ⟨b,o,none⟩ u):=fun k c f hk0 hk=>(Below.heap_setCell _ _ _ _ (show k≠b by omega)).trans hk
theorem SetT.keep {w:World} {bl:Nat} {cs:List Value} {k:List (El w)} {W W':World} (h:SetT bl cs k W) (hk:DatKept bl W W'):SetT bl cs k W':=by
 obtain⟨⟨x,xs,po,no,qo,od,cd,h1,h2,h3,h4⟩,h5⟩:=h;refine⟨⟨x,xs,po,no,qo,od,cd,h1,h2,h3,?_⟩,fun po t tt od n cd e a ha=>?_⟩
 ·obtain⟨o',cap',e0,d1,d2,d3,d4⟩:=h4
  refine⟨o',cap',e0,d1,d2,d3,fun j hj=>?_⟩
  obtain⟨a,ha,hc⟩:=d4 j hj;cases e0;obtain⟨h0,cur,f,hb⟩:=h5 _ _ _ _ _ _ h2 a ha;refine⟨a,ha,?_⟩;rw[<-hc];exact World.cell?_of_block (by rw[add_block,hb];exact hk _ _ _ h0 hb)
 ·obtain⟨h0,cur,f,hb⟩:=h5 _ _ _ _ _ _ e a ha
  exact⟨h0,cur,f,hk _ _ _ h0 hb⟩
theorem Row.typ {R:Nat->Prop} {e:TypeId} {sz n g:Nat} {v:Value} {xs:List Value} {W:World} (h:Row R e sz v n xs W) (hg:v.ownBlock=some g):∃c f,W.heap[g]? = some (.cells c e f):=by
 obtain⟨⟨_,ho⟩,_⟩:=h;rcases ho with⟨rfl,_⟩|⟨g',cap',cur,rfl,_,hh,_⟩
 ·simp[Value.ownBlock] at hg
 ·simp only[Value.ownBlock,Option.some.injEq] at hg;subst hg;exact⟨_,_,hh⟩
structure SetsM {w:World} (B bl:Nat) (w0 ws:World) (gs:List (List (El w))) (W:World):Prop where
 ob:∃(css:List (List Value)) (v:Value),Box B 132 v W/\Row (fun g=>ws.heap.size<=g) 89 4 v css.length css.flatten W/\css.length=gs.length/\∀i (h:i<css.length) (h':i<gs.length),SetT bl css[i] gs[i] W
 below:Below B w0 W
 size:ws.heap.size<=W.heap.size
theorem SetsM.put {w:World} {B bl w0 ws L} {gs:List (List (El w))} (hL:ws.heap.size<=L) (hB:B<=ws.heap.size) {A:World} {r:Loop} (h:SetsM B bl w0 ws gs A) (hr:A.heap[L]? = some (.loop r)) (o:Obj):SetsM B bl w0 ws gs (A.putObj L o):=by
 obtain⟨css,v,h1,h2,h3,h4⟩:=h.ob;exact⟨⟨css,v,h1.put hr o,h2.put hr o,h3,fun i hi hi'=>(h4 i hi hi').keep (.of_cells (CellsKept.put hr o))⟩,below_put h.below (by omega) hr (by have:=h.size;omega) o,by simpa using h.size⟩
theorem SetsM.on {w:World} {B bl w0 ws} {gs:List (List (El w))} {A W:World} (h:SetsM B bl w0 ws gs A) (hb:Below A.heap.size A W) (hBA:B<=A.heap.size):SetsM B bl w0 ws gs W:=by
 obtain⟨css,v,h1,h2,h3,h4⟩:=h.ob;exact⟨⟨css,v,h1.below hb,h2.below hb,h3,fun i hi hi'=>(h4 i hi hi').keep (.of_cells (CellsKept.below hb))⟩,h.below.trans (hb.mono hBA),by have:=hb.size;have:=h.size;omega⟩
theorem SetsM.st {w:World} {B bl w0 ws} {gs:List (List (El w))} {A W:World} (h:SetsM B bl w0 ws gs A) (hst:setSt bl A W) (hbl:B<bl) (hws:bl<ws.heap.size):SetsM B bl w0 ws gs W:=by
 obtain⟨css,v,h1,h2,h3,h4⟩:=h.ob;refine⟨⟨css,v,(hst.1.block B h1.lt (fun e=>by cases e;omega)).trans h1,?_,h3,fun i hi hi'=>(h4 i hi hi').keep (.grown hst.1 (fun g hg=>by cases hg;exact .inl (Zh _)))⟩,h.below.grown hst.1 (by have:=h1.lt;omega) (fun g hg=>by cases hg;omega),by have:=hst.1.size;have:=h.size;omega⟩
 exact h2.kept fun g c t f hv hg=>(hst.1.block g (Array.getElem?_eq_some_iff.1 hg).1 (fun e=>by cases e;have:=h2.2 _ hv;omega)).trans hg
end
section
open Go.RowKit Go.Shelf Go.Sort
attribute [local go_sem] Oper.semAt_some
section
variable {w:World}
def SetsR (l:List (El w)) (w0:World) (e:Ending) (w':World):Prop :=
 ∃(c:List (El w)) (v:Value),plE c=Rc.canon (plE l)/\c.length<=l.length/\e=.returned v/\SetsRd v (grp c) w'/\Below w0.heap.size w0 w'
def SetsR2 (l:List (El w)) (w0:World) (e:Ending) (w':World):Prop :=
 ∃(c:List (El w)) (o:Option Addr) (n cap:Nat),plE c=Rc.canon (plE l)/\c.length<=l.length/\e=.returned (.slice o n cap)/\SetsRd (.slice o n cap) (grp c) w'/\(∀a,o=some a->∃c f,w'.heap[a.block]? = some (.cells c 89 f))/\Below w0.heap.size w0 w'
theorem SetsM.rd {B bl:Nat} {w0 ws:World} {gs:List (List (El w))} {W:World} {v:Value} {css:List (List Value)} (h2:Row (fun g=>ws.heap.size<=g) 89 4 v css.length css.flatten W) (h3:css.length=gs.length) (h4:∀i (h:i<css.length) (h':i<gs.length),SetT bl css[i] gs[i] W) (_:SetsM B bl w0 ws gs W):SetsRd v gs W :=
 ⟨css,h2.grd (fun x hx=>by
  obtain⟨i,hi,rfl⟩:=List.mem_iff_getElem.1 hx;exact (h4 i hi (by omega)).1.ok),h3,fun i hi hi'=>(h4 i hi hi').1⟩
end
end
section
open Go.RowKit Go.Shelf Go.Sort
theorem rb_of {r:Rc.PRec} (ho:Nm.few r.owner=true) (hd:DF r) (hn:RN r):RB r :=
 ⟨NB.few ho,⟨by have:=hd.names;omega,fun n h=>NB.few (hd.name n h)⟩,⟨by have:=hd.nums;omega,hn.2⟩,by have:=hd.texts;omega,hn.1⟩
theorem els {W:World}:∀{l:List RP},(∀x∈l,RecRd x.1 x.2 W/\RB x.2)->∃L:List (El W),L.map (·.1)=l
 | [],_=>⟨[],rfl⟩
 | x::l,h=>by
  obtain⟨L,hL⟩:=els (fun y hy=>h y (Zv _ hy))
  exact⟨⟨x,h x Zu⟩::L,by rw[List.map_cons,hL]⟩
theorem els_of {W:World} {v:Value} {l:List RP} (hv:RecsRd v l W) (hf:RF l) (hn:∀x∈l,RN x.2):∃L:List (El W),L.map (·.1)=l/\L.length<=60/\L.length=l.length:=by
 obtain⟨L,hL⟩:=els (W:=W) (l:=l) (fun x hx=>⟨hv.1 x hx,rb_of (hf.owner x hx) (hf.dat x hx) (hn x hx)⟩)
 have hl:L.length=l.length:=by rw[<-hL,Zf]
 exact⟨L,hL,by have:=hf.len;omega,hl⟩
end
section
open Go.RowKit Go.Shelf Go.Sort
namespace Rs
open Rc
def grpF:Nat->List PRec->List (List PRec)
 | 0,_=>[]
 | _,[]=>[]
 | f+1,x::l=>(x::l).take (run x (x::l))::grpF f ((x::l).drop (run x (x::l)))
end Rs
theorem plE_grpE {w:World}:∀(f:Nat) (l:List (El w)),(grpE f l).map plE=Rs.grpF f (plE l)
 | 0,_=>rfl
 | f+1,[]=>rfl
 | f+1,x::l=>by
  show plE _::(grpE f _).map plE=_::Rs.grpF f _;rw[plE_grpE f];simp[plE,List.map_take,List.map_drop]
theorem zH {w:World} (l:List (El w)):(plE l).length=l.length:=by simp[plE]
theorem plE_grp {w:World} (l:List (El w)):(grp l).map plE=Rs.grpF (plE l).length (plE l):=by rw[zH];exact plE_grpE _ _
abbrev Rs.ka:Rc.PRec:=⟨[[97]],9,1,[],[],[],[2,2,2,2]⟩
abbrev Rs.kb:Rc.PRec:=⟨[[97]],5,1,[],[],[],[1,1,1,1]⟩
abbrev Rs.kc:Rc.PRec:=⟨[[97]],7,2,[[[120]]],[],[],[]⟩
theorem Rs.k_canon:Rc.canon [Rs.ka,Rs.kb,Rs.kc]=[Rs.kb,Rs.ka,Rs.kc]:=by kernel_rfl
end
section
open Go.RowKit Go.Shelf Go.Sort
def Cs:List (Addr × Value)->World->Prop
 | [],_=>True
 | p::l,W=>W.cell? p.1=some p.2/\Cs l W
theorem Cs.below:∀{l:List (Addr × Value)} {W W':World},Cs l W->Below W.heap.size W W'->Cs l W'
 | [],_,_,_,_=>trivial
 | _::_,_,_,h,hb=>⟨(hb.cell (zG h.1)).trans h.1,Cs.below h.2 hb⟩
theorem Cs.drew:∀{l:List (Addr × Value)} {W:World},Cs l W->Cs l W.drew
 | [],_,_=>trivial
 | _::_,_,h=>⟨h.1,Cs.drew h.2⟩
end
section
open Go.RowKit Go.Shelf Go.Sort Go.ChangeShapes Go.WideShapes
theorem DatRd.cells5 {vs:List Value} {r:Rc.PRec} {W:World} (h:DatRd vs r W):∃us p1 q1 p2 n2 q2 p3 n3 q3 p4 n4 q4,vs=[.int .i64 r.type,.slice p1 us.length q1,.slice p2 n2 q2,.slice p3 n3 q3,.slice p4 n4 q4]/\Sl (.slice p1 us.length q1) us W/\us.length=r.names.length/\(∀u∈us,∃o l c,u=.slice o l c):=by
 obtain⟨vn,vm,vt,vr,rfl,⟨us,u1,u2,u3⟩,h2,h3,h4⟩:=h;obtain⟨p1,q1,e1,_⟩:=u2.form;obtain⟨p2,q2,e2,_⟩:=h2.form;obtain⟨p3,q3,e3,_⟩:=h3.form;obtain⟨p4,q4,e4,_⟩:=Sl.form h4;subst e1;subst e2;subst e3;subst e4;refine⟨us,p1,q1,p2,_,q2,p3,_,q3,p4,_,q4,rfl,u2,u1,fun u hu=>?_⟩
 obtain⟨i,hi,rfl⟩:=List.mem_iff_getElem.1 hu;obtain⟨o,c,e,_⟩:=(u3 i hi (by omega)).form
 exact⟨_,_,_,e⟩
theorem DatRd.ok {vs:List Value} {r:Rc.PRec} {W:World} (h:DatRd vs r W):vs.length=5/\∀u∈vs,u.oneCell'=true:=by
 obtain⟨us,p1,q1,p2,n2,q2,p3,n3,q3,p4,n4,q4,rfl,_⟩:=h.cells5;refine⟨rfl,fun u hu=>?_⟩
 simp only[List.mem_cons,List.not_mem_nil,or_false] at hu;rcases hu with rfl|rfl|rfl|rfl|rfl<;>rfl
def DtsRd (v:Value) (l:List RP) (W:World):Prop:=GRd 5 v (l.map (·.1)) W/\∀x∈l,DatRd x.1 x.2 W
theorem DtsRd.below {v:Value} {l:List RP} {W W':World} (h:DtsRd v l W) (hb:Below W.heap.size W W'):DtsRd v l W':=⟨h.1.below hb,fun x hx=>(h.2 x hx).below hb⟩
theorem DtsRd.form {v:Value} {l:List RP} {W:World} (h:DtsRd v l W):∃o cap,v=.slice o l.length cap/\l.length<=cap/\cap<=9223372036854775807:=by
 obtain⟨o,cap,h1,h2,h3⟩:=h.1.form;rw[Zf] at h1 h2;exact⟨o,cap,h1,h2,h3⟩
theorem DtsRd.el {o:Option Addr} {n cap:Nat} {l:List RP} {W:World} (h:DtsRd (.slice o n cap) l W):∀W',Below W.heap.size W W'->∀(i:Nat) (hi:i<l.length) (c0 c1 c2 c3 c4:Value),l[i].1=[c0,c1,c2,c3,c4]->∃a,o=some a /\
  W'.cell? (a.add (i*5))=some c0/\W'.cell? ⟨(a.add (i*5)).block,(a.add (i*5)).off+1,none⟩=some c1/\W'.cell? ⟨(a.add (i*5)).block,(a.add (i*5)).off+2,none⟩=some c2/\W'.cell? ⟨(a.add (i*5)).block,(a.add (i*5)).off+3,none⟩=some c3/\W'.cell? ⟨(a.add (i*5)).block,(a.add (i*5)).off+4,none⟩=some c4:=by
 intro W' hb i hi c0 c1 c2 c3 c4 hx;obtain⟨a,ha,h0,h1⟩:=(h.1.below hb).at (by decide) i (by simpa using hi)
 simp only[List.getElem_map,hx] at h0 h1;exact⟨a,ha,h0,h1 1 (by decide) (by decide),h1 2 (by decide) (by decide),h1 3 (by decide) (by decide),h1 4 (by decide) (by decide)⟩
def plD (l:List RP):List Rc.PRec:=l.map (·.2)
end
section
open Go.RowKit Go.Shelf Go.Sort
def TrE (w:World) (e:Ending) (w':World):Prop:=e=.returned (.bool true)/\Below w.heap.size w w'
def OfD (w:World) (cs:List Value) (r:Rc.PRec) (W:World):Prop :=
 ∃us ox cx vm vt vr,cs=[.int .i64 r.type,.slice ox us.length cx,vm,vt,vr]/\Row (fun g=>w.heap.size<=g) 37 1 (.slice ox us.length cx) us.length us W/\us.length=r.names.length /\
  (∀i (h:i<us.length) (h':i<r.names.length),Rd us[i] r.names[i] w)/\Sl vm (numC r.nums) w/\Rd vt r.texts w/\BtRd vr r.raw w
theorem OfD.dat {w:World} {cs:List Value} {r:Rc.PRec} {W:World} (h:OfD w cs r W) (hb:Below w.heap.size w W):DatRd cs r W:=by
 obtain⟨us,ox,cx,vm,vt,vr,rfl,h1,h2,h3,h4,h5,h6⟩:=h;exact⟨_,vm,vt,vr,rfl,⟨us,h2,Row.sl h1,fun i hi hi'=>(h3 i hi hi').below hb⟩,h4.below hb,h5.below hb,Sl.below h6 hb⟩
theorem OfD.below {w:World} {cs:List Value} {r:Rc.PRec} {W W':World} (h:OfD w cs r W) (hb:Below W.heap.size W W'):OfD w cs r W':=by
 obtain⟨us,ox,cx,vm,vt,vr,rfl,h1,h2⟩:=h;exact⟨us,ox,cx,vm,vt,vr,rfl,h1.below hb,h2⟩
theorem OfD.grown {w:World} {cs:List Value} {r:Rc.PRec} {W W':World} {row:Option Nat} (h:OfD w cs r W) (hg:W.grownBy W' row) (hr:∀g,row=some g->∃c t f,W.heap[g]? = some (.cells c t f)/\t≠37):OfD w cs r W':=by
 obtain⟨us,ox,cx,vm,vt,vr,rfl,h1,h2⟩:=h;refine⟨us,ox,cx,vm,vt,vr,rfl,h1.kept fun g c t f hv hk=>(hg.block g (Array.getElem?_eq_some_iff.1 hk).1 (fun e=>?_)).trans hk,h2⟩
 obtain⟨c1,f1,h3⟩:=h1.typ hv;obtain⟨c2,t2,f2,h4,h5⟩:=hr g e.symm;rw[h3] at h4;cases h4;exact h5 rfl
theorem OfD.one {w:World} {cs:List Value} {r:Rc.PRec} {W:World} (h:OfD w cs r W) (hb:Below w.heap.size w W):cs.length=5/\∀u∈cs,u.oneCell'=true:=(h.dat hb).ok
end
end Go.Proofs.YtgmbefolgppmdaaGreat
