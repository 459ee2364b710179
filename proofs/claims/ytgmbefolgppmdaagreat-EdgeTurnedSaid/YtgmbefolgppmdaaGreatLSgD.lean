/- The document's Canon: the walk. -/
import Derived.Test.YtgmbefolgppmdaaGreatLSgC
import Derived.Test.YtgmbefolgppmdaaGreatLReg
import Derived.Test.YtgmbefolgppmdaaGreatLAli
namespace Go.Proofs.YtgmbefolgppmdaaGreat
open Go.RowKit Go.Shelf Go.Sort
set_option maxRecDepth 100000
theorem finQ {G:Prop} {A B C D E:Type} (F:A->B->C->D->E->Prop) (Q:A->B->C->D->E->Prop) (h1:(∀a b c d e,F a b c d e->Q a b c d e)->G) (h2:∀a b c d e,F a b c d e->Q a b c d e):G:=h1 h2
namespace Rc
theorem put_cons (x y:PRec) (L:List PRec):put x (y::L)=if cmp y x<0 then y::put x L else if cmp y x=0 then (if x.ttl<y.ttl then { y with ttl:=x.ttl } else y)::L else x::y::L:=rfl
theorem put_split (x:PRec):∀(L:List PRec) (k:Nat),k<=L.length->(∀j (h:j<L.length),j<k->cmp L[j] x<0)->put x L=L.take k++put x (L.drop k)
 | _,0,_,_=>rfl
 | [],k+1,h,_=>by simp at h
 | y::L,k+1,h,hc=>by
  have h0:cmp y x<0:=hc 0 (by simp) (by omega)
  have ih:=put_split x L k (by simpa using h) (fun j hj hjk=>hc (j+1) (by simpa using hj) (by omega))
  rw[put_cons,if_pos h0,ih];rfl
end Rc
theorem flat_set {w:World} (os:List (El w)) (k:Nat) (hk:k<os.length) (y:El w) (c:Nat) (u:Value) (hc:c<7) (he:encE y=(encE os[k]).set c u):(os.flatMap encE).set (k*7+c) u=(os.set k y).flatMap encE:=by
 refine List.ext_getElem? fun j=>?_
 by_cases hj:j<os.length*7
 ·have q1:j / 7<os.length:=by omega
  have q2:j % 7<7:=Nat.mod_lt _ (by omega)
  have e1:=flat7 os (j / 7) q1 (j % 7) q2;have e2:=flat7 (os.set k y) (j / 7) (by simpa using q1) (j % 7) q2
  rw[show j / 7*7+j % 7=j by omega] at e1 e2
  rw[e2,List.getElem?_set];by_cases hjk:k*7+c=j
  ·have hkk:j / 7=k:=by omega
   have hcc:j % 7=c:=by omega
   rw[if_pos hjk,if_pos (by rw[flat_len encE 7 encE_len];omega)]
   simp only[hkk,hcc,List.getElem_set_self,he];rw[List.getElem?_set,if_pos rfl,if_pos (by rw[encE_len];exact hc)]
  ·rw[if_neg hjk,e1]
   by_cases hkk:k=j / 7
   ·subst hkk
    rw[List.getElem_set_self,he,List.getElem?_set,if_neg (by omega)]
   ·rw[List.getElem_set_ne hkk]
 ·rw[List.getElem?_eq_none (by rw[List.length_set,flat_len encE 7 encE_len];omega),List.getElem?_eq_none (by rw[flat_len encE 7 encE_len,List.length_set];omega)]
theorem RecsRd.grd {w:World} {v:Value} {l:List (El w)} {W:World} (h:RecsRd v (l.map (·.1)) W):GRd 7 v (l.map encE) W:=by
 obtain⟨h0,o,cap,h1,h2,h3,h4,h5⟩:=h;rw[Zf] at h1 h2;refine⟨o,cap,by rw[Zf];exact h1,by rw[Zf];exact h2,h3,h4,fun y hy=>?_,fun i hi c hc=>?_⟩
 ·obtain⟨x,_,rfl⟩:=List.mem_map.1 hy
  exact⟨encE_len x,x.2.1.one⟩
 ·rw[Zf] at hi
  rw[encP_map] at h5;have hl:i*7+c<(l.flatMap encE).length:=by rw[flat_len encE 7 encE_len];omega
  obtain⟨a,ha,e⟩:=h5 _ hl;refine⟨a,ha,?_⟩;rw[e,<-zN hl,flat7 l i hi c hc,List.getElem_map]
theorem joinE_cells {w:World} (y x:El w) {y0 y2 y3 y4 y5 y6 x0 x2 x3 x4 x5 x6:Value} (ey:encE y=[y0,.int .u32 (y.1.2.ttl:Int),y2,y3,y4,y5,y6]) (ex:encE x=[x0,.int .u32 (x.1.2.ttl:Int),x2,x3,x4,x5,x6]) (h:x.1.2.ttl<y.1.2.ttl):encE (joinE y x)=(encE y).set 1 (.int .u32 (x.1.2.ttl:Int)):=by
 have:encE (joinE y x)=jC (encE y) (encE x):=rfl
 rw[this,ey,ex];simp only[jC];rw[show min (y.1.2.ttl:Int) x.1.2.ttl=x.1.2.ttl by omega];rfl
theorem GRd.grown75 {k:Nat} {b:Nat} {n c:Nat} {xs:List (List Value)} {W W':World} {row:Option Nat} (h:GRd k (.slice (some ⟨b,0,none⟩) n c) xs W) (hg:W.grownBy W' row) (hr:∀g,row=some g->g≠b):GRd k (.slice (some ⟨b,0,none⟩) n c) xs W':=by
 obtain⟨o,cap,h1,h2,h3,h4,h5,h6⟩:=h;cases h1;refine⟨_,_,rfl,h2,h3,h4,h5,fun i hi c hc=>?_⟩
 obtain⟨a,ha,e⟩:=h6 i hi c hc;refine⟨a,ha,?_⟩;cases ha;have hl:c<xs[i].length:=by rw[(h5 _ (List.getElem_mem hi)).1];exact hc
 rw[zN hl] at e ⊢;have hlt:=zG e;rw[World.cell?_of_block (hg.block _ hlt (fun e'=>hr _ e'.symm (by rw[add_block])))]
 exact e
def RCanR {w:World} (l:List (El w)) (w0:World) (e:Ending) (w':World):Prop :=
 ∃(c:List (El w)) (v':Value),plE c=Rc.canon (plE l)/\c.length<=l.length/\e=.returned v'/\RecsRd v' (c.map (·.1)) w'/\Below w0.heap.size w0 w'
set_option maxHeartbeats 8000000 in
theorem refCanon_any {w w0:World} (v:Value) (l:List (El w)) (hb0:Below w.heap.size w w0) (hv:RecsRd v (l.map (·.1)) w0) (na:l.length<=1000) :
  Calls Tryz.prog 45 #[v] w0 (RCanR l w0):=by
 obtain⟨ov,cv,rfl⟩:∃o cap,v=.slice o l.length cap:=by obtain⟨_,o,cap,h,_⟩:=hv;exact⟨o,cap,by rw[h,Zf]⟩
 have HV:=Hd hv.el;have HB0:=Hd hb0;have lz:(l.length:Int)<=1000:=by omega
 clear hv hb0;refine (zF (n:=0)).1 ?_;refine callsIn_of_wp Tryz.func45 rfl trivial ?_ rfl;simp only[Tryz.ntmps45,Zo,Ze,Zg,Nat.reduceAdd,Nat.reduceSub,Zi,Zj,Zk,Zl,Zm,Zp];gi_wp2_with fail
 gi_loopw [3,4] (fun vx vi W=>∃(i:Nat) (os:List (El w)),i<=l.length/\vi=.int .i64 i/\os.length<=i/\Hid (plE os=Rc.refCanon (plE (l.take i)))/\Below w0.heap.size w0 W/\Row (fun g=>w0.heap.size<=g) 119 7 vx os.length (os.flatMap encE) W) (fun _ vi _=>l.length-(intOf vi).toNat)
 case atStart=>exact⟨0,[],Nat.zero_le _,rfl,Zh _,rfl,Below.refl _ _,Row.nil _ _ _ _⟩
 case round =>
  obtain⟨i,os,hi,rfl,hos,HI,hb,hrow⟩:=hrel;by_cases hlt:i<l.length
  case neg =>
   have hlz:¬((i:Int)<(l.length:Int)):=by omega
   obtain rfl:i=l.length:=by omega
   have HB:=Hd hb;have HR:=Hd hrow;clear hb hrow;gi_wp2_with fail
   go_ret
   have h1:=HI.out;rw[List.take_length,<-Rc.canon_eq] at h1;refine⟨os,_,h1,hos,rfl,recsRd_of (Row.grd (e:=119) (R:=fun g=>w0.heap.size<=g) ?_ (fun c hc=>?_)) (fun x hx=>?_),HB.out⟩
   ·rw[Zf,Zf,List.map_map];exact HR.out
   ·rw[List.map_map] at hc
    obtain⟨x,_,rfl⟩:=List.mem_map.1 hc;exact⟨encE_len x,x.2.1.one⟩
   ·obtain⟨y,_,rfl⟩:=List.mem_map.1 hx
    exact y.2.1.below (Z5 HB0.out HB.out)
  case pos =>
  have hlz:(i:Int)<(l.length:Int):=by omega
  obtain⟨x,hx⟩:=Zq (l[i]);obtain⟨p0,n0,q0,p1,n1,q1,p2,n2,q2,p3,n3,q3,p4,n4,q4,ex⟩:=x.cells;have HCE:Hid (∀W',Below w0.heap.size w0 W'->∃a,ov=some a/\W'.cell? (a.add (i*7))=some (.slice p0 n0 q0)/\W'.cell? ⟨(a.add (i*7)).block,(a.add (i*7)).off+1,none⟩=some (.int .u32 (x.1.2.ttl:Int))/\W'.cell? ⟨(a.add (i*7)).block,(a.add (i*7)).off+2,none⟩=some (.int .i64 x.1.2.type)/\W'.cell? ⟨(a.add (i*7)).block,(a.add (i*7)).off+3,none⟩=some (.slice p1 n1 q1)/\W'.cell? ⟨(a.add (i*7)).block,(a.add (i*7)).off+4,none⟩=some (.slice p2 n2 q2)/\W'.cell? ⟨(a.add (i*7)).block,(a.add (i*7)).off+5,none⟩=some (.slice p3 n3 q3)/\W'.cell? ⟨(a.add (i*7)).block,(a.add (i*7)).off+6,none⟩=some (.slice p4 n4 q4)):=fun W' hW=>HV.out W' hW i hlt _ _ _ _ _ _ _ (by rw[hx];exact ex)
  obtain⟨ga,rfl,_⟩:=HCE.out _ hb;obtain⟨e,he⟩:=Zq (ga.add (i*7));have HXS:Hid (∀W',Below w0.heap.size w0 W'->Cs [(e,.slice p0 n0 q0),(⟨e.block,e.off+1,none⟩,.int .u32 (x.1.2.ttl:Int)),(⟨e.block,e.off+2,none⟩,.int .i64 x.1.2.type),(⟨e.block,e.off+3,none⟩,.slice p1 n1 q1),(⟨e.block,e.off+4,none⟩,.slice p2 n2 q2),(⟨e.block,e.off+5,none⟩,.slice p3 n3 q3),(⟨e.block,e.off+6,none⟩,.slice p4 n4 q4)] W'):=fun W' hW=>by
   obtain⟨a,ha,h0,h1,h2,h3,h4,h5,h6⟩:=HCE.out W' hW;cases ha;rw[he] at h0 h1 h2 h3 h4 h5 h6;exact⟨h0,h1,h2,h3,h4,h5,h6,trivial⟩
  have htk:l.take (i+1)=l.take i++[x]:=by rw[Zx hlt,hx]
  have HIN:Hid (Rc.refCanon (plE (l.take (i+1)))=Rc.put x.1.2 (plE os)):=by show _=_;rw[htk,plE_snoc,Rc.refCanon_snoc,HI.out]
  have hxr:RecRd [.slice p0 n0 q0,.int .u32 (x.1.2.ttl:Int),.int .i64 x.1.2.type,.slice p1 n1 q1,.slice p2 n2 q2,.slice p3 n3 q3,.slice p4 n4 q4] x.1.2 w:=by have h:=x.2.1;rw[show x.1.1=_ from ex] at h;exact h
  have HXR:=Hd hxr;have HEX:=Hd ex;have HR:=Hd hrow;have HB:=Hd hb;obtain⟨ox,cx,rfl⟩:=hrow.form;have hosz:(os.length:Int)<=1000:=by omega
  have hcx:os.length<=cx/\cx<=9223372036854775807:=by
   obtain⟨⟨_,ho⟩,_⟩:=hrow;rcases ho with⟨h1,h2⟩|⟨g',cap',cur,h1,_,_,h3,h4,_⟩
   ·simp only[Value.slice.injEq] at h1;omega
   ·simp only[Value.slice.injEq] at h1;unfold maxLen at h4;omega
  obtain⟨hcx1,hcx2⟩:=hcx;clear hx ex htk hxr hb hrow;generalize wr=wo at *
  gi_wp2_with fail
  gi_loopw [5] (fun vk W=>∃k:Nat,k<=os.length/\vk=.int .i64 k/\Hid (∀j (h:j<os.length),j<k->Rc.cmp os[j].1.2 x.1.2<0)/\Below wo.heap.size wo W) (fun vk _=>os.length-(intOf vk).toNat)
  case atStart=>exact⟨0,Nat.zero_le _,rfl,(fun j h h0=>absurd h0 (by omega)),Below.refl _ _⟩
  case round =>
   obtain⟨k,hk,rfl,HK,hbk⟩:=hrel;have HBK:=Hd hbk;have HBK0:=Hd (Z5 HB.out hbk);have HRK:=Hd (HR.out.below hbk);have HPS:Hid (Rc.put x.1.2 (plE os)=(plE os).take k++Rc.put x.1.2 ((plE os).drop k)):=Rc.put_split _ _ _ (by rw[zH];exact hk) (fun j hj hjk=>by rw[plE_get];exact HK.out j _ hjk)
   clear hbk;by_cases hkl:k<os.length
   ·have hkz:(k:Int)<(os.length:Int):=by omega
    obtain⟨y,hy⟩:=Zq (os[k]);obtain⟨r0,k0,t0,r1,k1,t1,r2,k2,t2,r3,k3,t3,r4,k4,t4,ey⟩:=y.cells;obtain⟨g,c',hg⟩:=HR.out.some_block (by omega)
    cases hg;have hyr:RecRd [.slice r0 k0 t0,.int .u32 (y.1.2.ttl:Int),.int .i64 y.1.2.type,.slice r1 k1 t1,.slice r2 k2 t2,.slice r3 k3 t3,.slice r4 k4 t4] y.1.2 w:=by have h:=y.2.1;rw[show y.1.1=_ from ey] at h;exact h
    have HYS:Hid (∀W',Below wo.heap.size wo W'->Cs [(⟨g,k*7,none⟩,Value.slice r0 k0 t0),(⟨g,k*7+1,none⟩,.int .u32 (y.1.2.ttl:Int)),(⟨g,k*7+2,none⟩,.int .i64 y.1.2.type),(⟨g,k*7+3,none⟩,.slice r1 k1 t1),(⟨g,k*7+4,none⟩,.slice r2 k2 t2),(⟨g,k*7+5,none⟩,.slice r3 k3 t3),(⟨g,k*7+6,none⟩,.slice r4 k4 t4),(e,.slice p0 n0 q0),(⟨e.block,e.off+1,none⟩,.int .u32 (x.1.2.ttl:Int)),(⟨e.block,e.off+2,none⟩,.int .i64 x.1.2.type),(⟨e.block,e.off+3,none⟩,.slice p1 n1 q1),(⟨e.block,e.off+4,none⟩,.slice p2 n2 q2),(⟨e.block,e.off+5,none⟩,.slice p3 n3 q3),(⟨e.block,e.off+6,none⟩,.slice p4 n4 q4)] W'):=fun W' hW=>by
     obtain⟨h0,h1,h2,h3,h4,h5,h6⟩:=Row.el (HR.out.below hW) k hkl (by rw[hy];exact ey)
     exact⟨h0,h1,h2,h3,h4,h5,h6,HXS.out W' (Z5 HB.out hW)⟩
    obtain⟨z,hz⟩:=Zq (Rc.cmp y.1.2 x.1.2);have HCR:=Hd (fun W' (hW:Below wo.heap.size wo W')=>refCompareRec_any _ _ y.1.2 x.1.2 W' (hyr.below (Z5 HB0.out (Z5 HB.out hW))) (HXR.out.below (Z5 HB0.out (Z5 HB.out hW))) y.2.2 x.2.2)
    have HSR:=Hd (fun W' (hW:Below wo.heap.size wo W')=>refSameRec_any _ _ y.1.2 x.1.2 W' (hyr.below (Z5 HB0.out (Z5 HB.out hW))) (HXR.out.below (Z5 HB0.out (Z5 HB.out hW))) y.2.2 x.2.2)
    rw[hz] at HCR HSR;have HZ:=Hd hz;have HY:=Hd hy;have HEY:=Hd ey;clear hyr hz hy ey;gi_wp2_with fail
    refine Z8 (List.range 16) (Cs [(⟨g,k*7,none⟩,Value.slice r0 k0 t0),(⟨g,k*7+1,none⟩,.int .u32 (y.1.2.ttl:Int)),(⟨g,k*7+2,none⟩,.int .i64 y.1.2.type),(⟨g,k*7+3,none⟩,.slice r1 k1 t1),(⟨g,k*7+4,none⟩,.slice r2 k2 t2),(⟨g,k*7+5,none⟩,.slice r3 k3 t3),(⟨g,k*7+6,none⟩,.slice r4 k4 t4),(e,.slice p0 n0 q0),(⟨e.block,e.off+1,none⟩,.int .u32 (x.1.2.ttl:Int)),(⟨e.block,e.off+2,none⟩,.int .i64 x.1.2.type),(⟨e.block,e.off+3,none⟩,.slice p1 n1 q1),(⟨e.block,e.off+4,none⟩,.slice p2 n2 q2),(⟨e.block,e.off+5,none⟩,.slice p3 n3 q3),(⟨e.block,e.off+6,none⟩,.slice p4 n4 q4)]) 16 rfl (by kernel_rfl) ?_
    intro wa hwa;have HBA:Hid (Below wo.heap.size wo wa):=by subst hwa;exact HBK.out.drew
    have hS:=HYS.out wa HBA.out;clear hwa;refine tA 0 hS ?_;refine tA 1 hS ?_;refine tA 2 hS ?_;refine tA 3 hS ?_;refine tA 4 hS ?_;refine tA 5 hS ?_;refine tA 6 hS ?_;refine tA 7 hS ?_;simp only[Act.put,Za,Zd,Zc];refine tA 8 hS ?_;refine tA 9 hS ?_;refine tA 10 hS ?_;refine tA 11 hS ?_;refine tA 12 hS ?_;simp only[Act.put,Za,Zd,Zc];refine oneH 13 (by rfl) (by kernel_rfl) (fun K hK=>?_)
    gi_wp2_with (gi_at_call 74;refine (callsIn_wide.2 (HCR.out wa HBA.out)).mono ?_;rintro e9 wb ⟨rfl,b9⟩)
    have HBB:=Hd (Z5 HBA.out b9);replace hS:=HYS.out wb HBB.out;refine hK _ _ (fun _=>hS) ?_
    clear hK K b9;by_cases hzl:z<0
    ·have hzd:decide (z<0)=true:=zM hzl
     refine tA 14 hS ?_;refine tA 15 hS ?_;simp only[Act.put,Za,Zd,Zc];refine Z9 (by kernel_rfl) ?_
     clear hS;gi_wp2_with fail
     refine⟨⟨k+1,hkl,by go_num,?_,HBB.out⟩,by simp[intOf];omega⟩
     show ∀j (h:j<os.length),j<k+1->_;intro j hj hjk;by_cases hjk':j<k
     ·exact HK.out j hj hjk'
     ·obtain rfl:j=k:=by omega
      rw[HY.out,HZ.out];exact hzl
    ·have hzd:decide (z<0)=false:=zL hzl
     refine tA 14 hS ?_;refine tA 15 hS ?_;simp only[Act.put,Za,Zd,Zc];refine Z9 (by kernel_rfl) ?_
     clear hS;gi_wp2_with fail
     refine Z8 (List.range 15) (Cs [(⟨g,k*7,none⟩,Value.slice r0 k0 t0),(⟨g,k*7+1,none⟩,.int .u32 (y.1.2.ttl:Int)),(⟨g,k*7+2,none⟩,.int .i64 y.1.2.type),(⟨g,k*7+3,none⟩,.slice r1 k1 t1),(⟨g,k*7+4,none⟩,.slice r2 k2 t2),(⟨g,k*7+5,none⟩,.slice r3 k3 t3),(⟨g,k*7+6,none⟩,.slice r4 k4 t4),(e,.slice p0 n0 q0),(⟨e.block,e.off+1,none⟩,.int .u32 (x.1.2.ttl:Int)),(⟨e.block,e.off+2,none⟩,.int .i64 x.1.2.type),(⟨e.block,e.off+3,none⟩,.slice p1 n1 q1),(⟨e.block,e.off+4,none⟩,.slice p2 n2 q2),(⟨e.block,e.off+5,none⟩,.slice p3 n3 q3),(⟨e.block,e.off+6,none⟩,.slice p4 n4 q4)]) 15 rfl (by kernel_rfl) ?_
     intro wc hwc;have HBC:Hid (Below wo.heap.size wo wc):=by subst hwc;exact HBB.out.drew
     have hS:=HYS.out wc HBC.out;clear hwc;refine tA 0 hS ?_;refine tA 1 hS ?_;refine tA 2 hS ?_;refine tA 3 hS ?_;refine tA 4 hS ?_;refine tA 5 hS ?_;refine tA 6 hS ?_;refine tA 7 hS ?_;simp only[Act.put,Za,Zd,Zc];refine tA 8 hS ?_;refine tA 9 hS ?_;refine tA 10 hS ?_;refine tA 11 hS ?_;refine tA 12 hS ?_;simp only[Act.put,Za,Zd,Zc];refine oneH 13 (by rfl) (by kernel_rfl) (fun K hK=>?_)
     gi_wp2_with (gi_at_call 75;refine (callsIn_wide.2 (HSR.out wc HBC.out)).mono ?_;rintro e9 wd ⟨rfl,b9⟩)
     have HBD:=Hd (Z5 HBC.out b9);replace hS:=HYS.out wd HBD.out;refine hK _ _ (fun _=>hS) ?_
     clear hK K b9;have HPD:Hid ((plE os).drop k=y.1.2::(plE os).drop (k+1)):=by
      show _=_;rw[Zy (by rw[zH];exact hkl),plE_get,HY.out]
     have HHZ:Hid (Rc.cmp y.1.2 x.1.2=z):=HZ.out;by_cases hz0:z=0
     ·subst hz0
      have hbq:((0:Int) == 0)=true:=rfl;rw[hbq];refine tA 14 hS ?_;simp only[Act.put,Za,Zd,Zc];refine Z9 (by kernel_rfl) ?_
      clear hS;gi_wp2_with fail
      refine Z8 (List.range 11) (Cs [(⟨g,k*7,none⟩,Value.slice r0 k0 t0),(⟨g,k*7+1,none⟩,.int .u32 (y.1.2.ttl:Int)),(⟨g,k*7+2,none⟩,.int .i64 y.1.2.type),(⟨g,k*7+3,none⟩,.slice r1 k1 t1),(⟨g,k*7+4,none⟩,.slice r2 k2 t2),(⟨g,k*7+5,none⟩,.slice r3 k3 t3),(⟨g,k*7+6,none⟩,.slice r4 k4 t4),(e,.slice p0 n0 q0),(⟨e.block,e.off+1,none⟩,.int .u32 (x.1.2.ttl:Int)),(⟨e.block,e.off+2,none⟩,.int .i64 x.1.2.type),(⟨e.block,e.off+3,none⟩,.slice p1 n1 q1),(⟨e.block,e.off+4,none⟩,.slice p2 n2 q2),(⟨e.block,e.off+5,none⟩,.slice p3 n3 q3),(⟨e.block,e.off+6,none⟩,.slice p4 n4 q4)]) 11 rfl (by kernel_rfl) ?_
      intro we hwe;have HBE:Hid (Below wo.heap.size wo we):=by subst hwe;exact HBD.out.drew
      have hS:=HYS.out we HBE.out;clear hwe;by_cases htt:x.1.2.ttl<y.1.2.ttl
      ·have htz:(x.1.2.ttl:Int)<(y.1.2.ttl:Int):=by omega
       have htd:decide (x.1.2.ttl<y.1.2.ttl)=true:=zM htt;refine tA 0 hS ?_;refine tA 1 hS ?_;refine tA 2 hS ?_;refine tA 3 hS ?_;refine tA 4 hS ?_;refine tA 5 hS ?_;refine tA 6 hS ?_;refine tA 7 hS ?_;simp only[Act.put,Za,Zd,Zc];refine tA 8 hS ?_;refine tA 9 hS ?_;refine tA 10 hS ?_;simp only[Act.put,Za,Zd,Zc];refine Z9 (by kernel_rfl) ?_
       have y1:=hS.2.1;have x1:=hS.2.2.2.2.2.2.2.2.1;have yf:=(Row.cellAt (HR.out.below HBE.out) (k*7+1) (by omega)).2
       clear hS;gi_wp2_with fail
       refine⟨⟨i+1,os.set k (joinE y x),hlt,by go_num,by rw[List.length_set];omega,?_,?_,?_⟩,by simp[intOf];omega⟩
       ·show _=_
        rw[HIN.out,HPS.out,HPD.out,Rc.put_cons,if_neg (by rw[HHZ.out];omega),if_pos HHZ.out,if_pos htt]
        rw[plE,List.map_set,List.set_eq_take_append_cons_drop,if_pos (by simpa using hkl)]
        show _=(plE os).take k++_::(plE os).drop (k+1);congr 2
        show Rc.join y.1.2 x.1.2=_;unfold Rc.join;rw[show min y.1.2.ttl x.1.2.ttl=x.1.2.ttl by omega]
       ·exact (Z5 HB.out HBE.out).setCell (p:=⟨g,k*7+1,none⟩) (HR.out.2 g rfl) _
       ·rw[List.length_set]
        have:=Row.set1 (HR.out.below HBE.out) (k*7+1) (.int .u32 (x.1.2.ttl:Int))
        rw[flat_set os k hkl (joinE y x) 1 _ (by decide) (by rw[HY.out];exact joinE_cells y x HEY.out HEX.out htt)] at this
        exact this
      ·have htz:¬(x.1.2.ttl:Int)<(y.1.2.ttl:Int):=by omega
       have htd:decide (x.1.2.ttl<y.1.2.ttl)=false:=zL htt;refine tA 0 hS ?_;refine tA 1 hS ?_;refine tA 2 hS ?_;refine tA 3 hS ?_;refine tA 4 hS ?_;refine tA 5 hS ?_;refine tA 6 hS ?_;refine tA 7 hS ?_;simp only[Act.put,Za,Zd,Zc];refine tA 8 hS ?_;refine tA 9 hS ?_;refine tA 10 hS ?_;simp only[Act.put,Za,Zd,Zc];refine Z9 (by kernel_rfl) ?_
       clear hS;gi_wp2_with fail
       refine⟨⟨i+1,os,hlt,by go_num,by omega,?_,Z5 HB.out HBE.out,HR.out.below HBE.out⟩,by simp[intOf];omega⟩
       show _=_;rw[HIN.out,HPS.out,HPD.out,Rc.put_cons,if_neg (by rw[HHZ.out];omega),if_pos HHZ.out,if_neg htt,<-HPD.out,List.take_append_drop]
     ·have hbq:(z == 0)=false:=by rw[beq_eq_false_iff_ne];exact hz0
      rw[hbq];refine tA 14 hS ?_;simp only[Act.put,Za,Zd,Zc];refine Z9 (by kernel_rfl) ?_
      clear hS;have HPT:Hid (Rc.put x.1.2 ((plE os).drop k)=x.1.2::(plE os).drop k):=by
       show _=_;rw[HPD.out,Rc.put_cons,if_neg (by rw[HHZ.out];omega),if_neg (by rw[HHZ.out];omega)]
      have hkz2:(k:Int)<=(cx:Int):=by omega
      gi_wp2_with fail
      refine Z8 [0,4,8,10] (Cs [(e,.slice p0 n0 q0),(⟨e.block,e.off+1,none⟩,.int .u32 (x.1.2.ttl:Int)),(⟨e.block,e.off+2,none⟩,.int .i64 x.1.2.type),(⟨e.block,e.off+3,none⟩,.slice p1 n1 q1),(⟨e.block,e.off+4,none⟩,.slice p2 n2 q2),(⟨e.block,e.off+5,none⟩,.slice p3 n3 q3),(⟨e.block,e.off+6,none⟩,.slice p4 n4 q4)]) 12 rfl (by kernel_rfl) ?_
      intro wj hwj;have HBJ:Hid (Below w0.heap.size w0 wj):=by subst hwj;exact (Z5 HB.out HBD.out).drew
      have HRJ:Hid (Row (fun g=>w0.heap.size<=g) 119 7 (.slice (some ⟨g,0,none⟩) os.length cx) os.length (os.flatMap encE) wj):=by subst hwj;exact (HR.out.below HBD.out).drew
      have hS:Cs [(e,.slice p0 n0 q0),(⟨e.block,e.off+1,none⟩,.int .u32 (x.1.2.ttl:Int)),(⟨e.block,e.off+2,none⟩,.int .i64 x.1.2.type),(⟨e.block,e.off+3,none⟩,.slice p1 n1 q1),(⟨e.block,e.off+4,none⟩,.slice p2 n2 q2),(⟨e.block,e.off+5,none⟩,.slice p3 n3 q3),(⟨e.block,e.off+6,none⟩,.slice p4 n4 q4)] wj:=HXS.out wj HBJ.out;clear hwj;refine tB 1 ?_;refine tB 2 ?_;refine tB 3 ?_;refine tB 5 ?_;refine tB 6 ?_;refine tB 7 ?_;simp only[Act.put,Za,Zd,Zc];refine tA 8 hS ?_;simp only[Act.put,Za,Zd,Zc];have HGR:Hid (GRd 7 (.slice (some ⟨g,0,none⟩) os.length cx) (os.map encE) wj):=Row.grd (by rw[Zf];exact HRJ.out) (fun c hc=>by
       obtain⟨y,_,rfl⟩:=List.mem_map.1 hc;exact⟨encE_len y,y.2.1.one⟩)
      have HTK:Hid (∀W',Below wj.heap.size wj W'->GRd 7 (.slice (some ⟨g,0,none⟩) k cx) ((os.take k).map encE) W'):=fun W' hW=>by
       have h:=HGR.out.take k cx (by omega) (by omega) (Zh _) (fun h=>by
        obtain⟨⟨_,ho⟩,_⟩:=HRJ.out;rcases ho with⟨h1,_⟩|⟨g',cap',cur,h1,_⟩
        ·simp only[Value.slice.injEq] at h1;omega
        ·first|(cases h1;done)|(simp only[Value.slice.injEq] at h1;rw[h1.1] at h;cases h)|cases h)
       rw[<-List.map_take] at h;exact h.below hW
      apply finQ (fun (_ _:Nat) (_ v76:Value) (W4:World)=>Row (fun g=>wj.heap.size<=g) 119 7 v76 (k+1) ((os.take k++[x]).map encE).flatten W4/\Below wj.heap.size wj W4)
      case h1 =>
       intro FIN;refine twoH2 0 9 (by rfl) (by rfl) (by kernel_rfl) (fun K hK=>?_) (fun K hK=>?_)
       ·gi_wp2_with fail
        obtain⟨wa,hwn0⟩:=Zq (wj.alloc (.cells #[] 119));have ha:Below wj.heap.size wj wa:=by rw[<-hwn0];exact ((Below.refl wj.heap.size wj)).alloc ((Below.refl wj.heap.size wj)).size _
        obtain⟨b66,hb66⟩:=Zq wj.heap.size;have hz66:wj.heap.size<=b66:=by rw[<-hb66];exact ((Below.refl wj.heap.size wj)).size
        have he66:Row (fun g=>wj.heap.size<=g) 119 7 (.slice (some ⟨b66,0,none⟩) 0 0) 0 ([]:List (List Value)).flatten wa:=by
         rw[<-hwn0,<-hb66];exact⟨World.ownsRow_lit wj #[] 0 (Nat.zero_le _) (by unfold maxLen;omega) rfl,fun g hg=>by cases hg;exact ((Below.refl wj.heap.size wj)).size⟩
        rw[hwn0,hb66];have HE66:=Hd he66;refine hK _ _ (fun _=>HXS.out _ (Z5 HBJ.out ha)) ?_
        clear hK K hwn0 hb66 he66;refine twoH2 4 9 (by rfl) (by rfl) (by kernel_rfl) (fun K hK=>?_) (fun K hK=>?_)
        ·have HSZ4:Hid (wj.heap.size<=wa.heap.size):=(ha).size
         have HRW4:=Hd (HE66.out);gi_wp2_with (gi_at_builtin;refine Z7 (fun g=>wj.heap.size<=g) 119 _ 7 136 info_rrec rfl (by decide) rfl _ _ _ Tryz.underlying63 rfl _ 0 [] (by rfl) HRW4.out _ ((os.take k).map encE) (by rfl) (HTK.out _ (ha)) (by rw[Zf,List.length_take];omega) (by omega) HSZ4.out ?_;intro v70 wb hrow70 hgr70)
         have hown70:∀g,(Value.slice (some ⟨b66,0,none⟩) 0 0).ownBlock=some g->wj.heap.size<=g:=fun g hg=>HRW4.out.2 g hg
         have hb2:Below wj.heap.size wj wb:=(ha).grown hgr70 (ha).size hown70;rw[Zm,Zf,List.length_take,Nat.zero_add,Nat.min_eq_left hk] at hrow70;have HR70:=Hd hrow70;have HGR70:=Hd hgr70;refine hK _ _ (fun _=>HXS.out _ (Z5 HBJ.out hb2)) ?_
         clear hK K hrow70 hgr70 HSZ4;refine oneH 9 (by rfl) (by kernel_rfl) (fun K hK=>?_)
         gi_wp2_with fail
         obtain⟨wc,hwn9⟩:∃W,wb.alloc (.cells #[.slice p0 n0 q0,.int .u32 (x.1.2.ttl:Int),.int .i64 x.1.2.type,.slice p1 n1 q1,.slice p2 n2 q2,.slice p3 n3 q3,.slice p4 n4 q4] 119)=W:=⟨_,rfl⟩;have hc:Below wj.heap.size wj wc:=by rw[<-hwn9];exact (hb2).alloc (hb2).size _
         obtain⟨b75,hb75⟩:=Zq wb.heap.size;have hg75:GRd 7 (.slice (some ⟨b75,0,none⟩) 1 1) [encE x] wc:=by
          rw[<-hwn9,<-hb75,HEX.out];exact GRd.new [.slice p0 n0 q0,.int .u32 (x.1.2.ttl:Int),.int .i64 x.1.2.type,.slice p1 n1 q1,.slice p2 n2 q2,.slice p3 n3 q3,.slice p4 n4 q4] rfl (by simp[Value.oneCell']) wb 119
         have ha75:Below wb.heap.size wb wc:=by rw[<-hwn9];exact Zr
         have hk75:∃c t f,wc.heap[b75]? = some (.cells c t f)/\b75+1=wc.heap.size:=by
          rw[<-hwn9,<-hb75];exact⟨_,_,_,World.alloc_heap_new wb _,by simp⟩
         rw[hwn9,hb75];have HG75:=Hd hg75;have HA75:=Hd ha75;refine hK _ _ (fun h=>absurd h (by decide)) ?_
         clear hK K hwn9 hg75 ha75;have HSZ9:Hid (wj.heap.size<=wc.heap.size):=(hc).size;have HRW9:=Hd (HR70.out.below HA75.out);have HGW9:=Hd (HG75.out);refine oneH 10 (by rfl) (by kernel_rfl) (fun K hK=>?_)
         gi_wp2_with (gi_at_builtin;refine Z7 (fun g=>wj.heap.size<=g) 119 _ 7 136 info_rrec rfl (by decide) rfl _ _ _ Tryz.underlying63 rfl _ k ((os.take k).map encE) (by rfl) HRW9.out _ [encE x] (by rfl) HGW9.out (by simp;omega) (by omega) HSZ9.out ?_;intro v76 wd hrow76 hgr76)
         have hd:Below wj.heap.size wj wd:=(hc).grown hgr76 (hc).size (fun g hg=>HRW9.out.2 g hg)
         have HR76:=Hd hrow76;refine hK _ _ (fun _=>HXS.out _ (Z5 HBJ.out hd)) ?_
         clear hK K hrow76 hgr76 HSZ9;refine oneH 11 (by rfl) (by kernel_rfl) (fun K hK=>?_)
         gi_wp2_with fail
         refine hK _ _ (fun h=>absurd h (by decide)) ?_
         clear hK K;refine Z9 (by kernel_rfl) ?_
         have hfr:=HR76.out;rw[<-List.map_singleton (f:=encE),<-List.map_append] at hfr;apply FIN b66 b75 v70 v76 wd
         exact⟨hfr,hd⟩
        ·gi_wp2_with fail
         obtain⟨wb,hwn9⟩:∃W,wa.alloc (.cells #[.slice p0 n0 q0,.int .u32 (x.1.2.ttl:Int),.int .i64 x.1.2.type,.slice p1 n1 q1,.slice p2 n2 q2,.slice p3 n3 q3,.slice p4 n4 q4] 119)=W:=⟨_,rfl⟩;have hb2:Below wj.heap.size wj wb:=by rw[<-hwn9];exact (ha).alloc (ha).size _
         obtain⟨b75,hb75⟩:=Zq wa.heap.size;have hg75:GRd 7 (.slice (some ⟨b75,0,none⟩) 1 1) [encE x] wb:=by
          rw[<-hwn9,<-hb75,HEX.out];exact GRd.new [.slice p0 n0 q0,.int .u32 (x.1.2.ttl:Int),.int .i64 x.1.2.type,.slice p1 n1 q1,.slice p2 n2 q2,.slice p3 n3 q3,.slice p4 n4 q4] rfl (by simp[Value.oneCell']) wa 119
         have ha75:Below wa.heap.size wa wb:=by rw[<-hwn9];exact Zr
         have hk75:∃c t f,wb.heap[b75]? = some (.cells c t f)/\b75+1=wb.heap.size:=by
          rw[<-hwn9,<-hb75];exact⟨_,_,_,World.alloc_heap_new wa _,by simp⟩
         rw[hwn9,hb75];have HG75:=Hd hg75;have HA75:=Hd ha75;refine hK _ _ (fun h=>absurd h (by decide)) ?_
         clear hK K hwn9 hg75 ha75;have HE67:=Hd (HE66.out.below HA75.out);have hne75:b66≠b75:=by
          obtain⟨c,t,f,h1,h2⟩:=hk75;have h3:=(HE66.out.1.lt b66 rfl).2;have h4:=HA75.out.size;omega
         refine oneH 4 (by rfl) (by kernel_rfl) (fun K hK=>?_)
         have HSZ4:Hid (wj.heap.size<=wb.heap.size):=(hb2).size;have HRW4:=Hd (HE67.out);gi_wp2_with (gi_at_builtin;refine Z7 (fun g=>wj.heap.size<=g) 119 _ 7 136 info_rrec rfl (by decide) rfl _ _ _ Tryz.underlying63 rfl _ 0 [] (by rfl) HRW4.out _ ((os.take k).map encE) (by rfl) (HTK.out _ (hb2)) (by rw[Zf,List.length_take];omega) (by omega) HSZ4.out ?_;intro v70 wc hrow70 hgr70)
         have hown70:∀g,(Value.slice (some ⟨b66,0,none⟩) 0 0).ownBlock=some g->wj.heap.size<=g:=fun g hg=>HRW4.out.2 g hg
         have hc:Below wj.heap.size wj wc:=(hb2).grown hgr70 (hb2).size hown70;rw[Zm,Zf,List.length_take,Nat.zero_add,Nat.min_eq_left hk] at hrow70;have HR70:=Hd hrow70;have HGR70:=Hd hgr70;refine hK _ _ (fun _=>HXS.out _ (Z5 HBJ.out hc)) ?_
         clear hK K hrow70 hgr70 HSZ4;have HSZ9:Hid (wj.heap.size<=wc.heap.size):=(hc).size;have HRW9:=Hd (HR70.out);have HGW9:=Hd (GRd.grown75 HG75.out HGR70.out (by rintro g hg;simp only[Value.ownBlock,Option.some.injEq] at hg;omega))
         refine oneH 10 (by rfl) (by kernel_rfl) (fun K hK=>?_)
         gi_wp2_with (gi_at_builtin;refine Z7 (fun g=>wj.heap.size<=g) 119 _ 7 136 info_rrec rfl (by decide) rfl _ _ _ Tryz.underlying63 rfl _ k ((os.take k).map encE) (by rfl) HRW9.out _ [encE x] (by rfl) HGW9.out (by simp;omega) (by omega) HSZ9.out ?_;intro v76 wd hrow76 hgr76)
         have hd:Below wj.heap.size wj wd:=(hc).grown hgr76 (hc).size (fun g hg=>HRW9.out.2 g hg)
         have HR76:=Hd hrow76;refine hK _ _ (fun _=>HXS.out _ (Z5 HBJ.out hd)) ?_
         clear hK K hrow76 hgr76 HSZ9;refine oneH 11 (by rfl) (by kernel_rfl) (fun K hK=>?_)
         gi_wp2_with fail
         refine hK _ _ (fun h=>absurd h (by decide)) ?_
         clear hK K;refine Z9 (by kernel_rfl) ?_
         have hfr:=HR76.out;rw[<-List.map_singleton (f:=encE),<-List.map_append] at hfr;apply FIN b66 b75 v70 v76 wd
         exact⟨hfr,hd⟩
       ·gi_wp2_with fail
        obtain⟨wa,hwn9⟩:∃W,wj.alloc (.cells #[.slice p0 n0 q0,.int .u32 (x.1.2.ttl:Int),.int .i64 x.1.2.type,.slice p1 n1 q1,.slice p2 n2 q2,.slice p3 n3 q3,.slice p4 n4 q4] 119)=W:=⟨_,rfl⟩;have ha:Below wj.heap.size wj wa:=by rw[<-hwn9];exact ((Below.refl wj.heap.size wj)).alloc ((Below.refl wj.heap.size wj)).size _
        obtain⟨b75,hb75⟩:=Zq wj.heap.size;have hg75:GRd 7 (.slice (some ⟨b75,0,none⟩) 1 1) [encE x] wa:=by
         rw[<-hwn9,<-hb75,HEX.out];exact GRd.new [.slice p0 n0 q0,.int .u32 (x.1.2.ttl:Int),.int .i64 x.1.2.type,.slice p1 n1 q1,.slice p2 n2 q2,.slice p3 n3 q3,.slice p4 n4 q4] rfl (by simp[Value.oneCell']) wj 119
        have ha75:Below wj.heap.size wj wa:=by rw[<-hwn9];exact Zr
        have hk75:∃c t f,wa.heap[b75]? = some (.cells c t f)/\b75+1=wa.heap.size:=by
         rw[<-hwn9,<-hb75];exact⟨_,_,_,World.alloc_heap_new wj _,by simp⟩
        rw[hwn9,hb75];have HG75:=Hd hg75;have HA75:=Hd ha75;refine hK _ _ (fun h=>absurd h (by decide)) ?_
        clear hK K hwn9 hg75 ha75;refine oneH 0 (by rfl) (by kernel_rfl) (fun K hK=>?_)
        gi_wp2_with fail
        obtain⟨wb,hwn0⟩:=Zq (wa.alloc (.cells #[] 119));have hb2:Below wj.heap.size wj wb:=by rw[<-hwn0];exact (ha).alloc (ha).size _
        obtain⟨b66,hb66⟩:=Zq wa.heap.size;have hz66:wj.heap.size<=b66:=by rw[<-hb66];exact (ha).size
        have he66:Row (fun g=>wj.heap.size<=g) 119 7 (.slice (some ⟨b66,0,none⟩) 0 0) 0 ([]:List (List Value)).flatten wb:=by
         rw[<-hwn0,<-hb66];exact⟨World.ownsRow_lit wa #[] 0 (Nat.zero_le _) (by unfold maxLen;omega) rfl,fun g hg=>by cases hg;exact (ha).size⟩
        have hn66:wa.heap.size=b66:=hb66;have HA66:Hid (Below wa.heap.size wa wb):=by show Below _ _ _;rw[<-hwn0];exact Zr
        rw[hwn0,hb66];have HE66:=Hd he66;refine hK _ _ (fun _=>HXS.out _ (Z5 HBJ.out hb2)) ?_
        clear hK K hwn0 hb66 he66;have hne75:b66≠b75:=by
         obtain⟨c,t,f,h1,h2⟩:=hk75;have h3:=hn66;omega
        refine oneH 4 (by rfl) (by kernel_rfl) (fun K hK=>?_)
        have HSZ4:Hid (wj.heap.size<=wb.heap.size):=(hb2).size;have HRW4:=Hd (HE66.out);gi_wp2_with (gi_at_builtin;refine Z7 (fun g=>wj.heap.size<=g) 119 _ 7 136 info_rrec rfl (by decide) rfl _ _ _ Tryz.underlying63 rfl _ 0 [] (by rfl) HRW4.out _ ((os.take k).map encE) (by rfl) (HTK.out _ (hb2)) (by rw[Zf,List.length_take];omega) (by omega) HSZ4.out ?_;intro v70 wc hrow70 hgr70)
        have hown70:∀g,(Value.slice (some ⟨b66,0,none⟩) 0 0).ownBlock=some g->wj.heap.size<=g:=fun g hg=>HRW4.out.2 g hg
        have hc:Below wj.heap.size wj wc:=(hb2).grown hgr70 (hb2).size hown70;rw[Zm,Zf,List.length_take,Nat.zero_add,Nat.min_eq_left hk] at hrow70;have HR70:=Hd hrow70;have HGR70:=Hd hgr70;refine hK _ _ (fun _=>HXS.out _ (Z5 HBJ.out hc)) ?_
        clear hK K hrow70 hgr70 HSZ4;have HSZ9:Hid (wj.heap.size<=wc.heap.size):=(hc).size;have HRW9:=Hd (HR70.out);have HGW9:=Hd (GRd.grown75 (HG75.out.below HA66.out) HGR70.out (by rintro g hg;simp only[Value.ownBlock,Option.some.injEq] at hg;omega))
        refine oneH 10 (by rfl) (by kernel_rfl) (fun K hK=>?_)
        gi_wp2_with (gi_at_builtin;refine Z7 (fun g=>wj.heap.size<=g) 119 _ 7 136 info_rrec rfl (by decide) rfl _ _ _ Tryz.underlying63 rfl _ k ((os.take k).map encE) (by rfl) HRW9.out _ [encE x] (by rfl) HGW9.out (by simp;omega) (by omega) HSZ9.out ?_;intro v76 wd hrow76 hgr76)
        have hd:Below wj.heap.size wj wd:=(hc).grown hgr76 (hc).size (fun g hg=>HRW9.out.2 g hg)
        have HR76:=Hd hrow76;refine hK _ _ (fun _=>HXS.out _ (Z5 HBJ.out hd)) ?_
        clear hK K hrow76 hgr76 HSZ9;refine oneH 11 (by rfl) (by kernel_rfl) (fun K hK=>?_)
        gi_wp2_with fail
        refine hK _ _ (fun h=>absurd h (by decide)) ?_
        clear hK K;refine Z9 (by kernel_rfl) ?_
        have hfr:=HR76.out;rw[<-List.map_singleton (f:=encE),<-List.map_append] at hfr;apply FIN b66 b75 v70 v76 wd
        exact⟨hfr,hd⟩
      case h2 =>
       rintro b66 b75 v70 v76 W4 ⟨hr76,hb4⟩;have HR76:=Hd hr76;have HB4:=Hd (Z5 HBJ.out hb4);have hro:GRd 7 (.slice (some ⟨g,0,none⟩) os.length cx) (os.map encE) W4:=HGR.out.below hb4;have HD0:=Hd (fun hc=>hro.drop0 k hk hc)
       have HD1:=Hd (hro.drop k hk);have HD2:Hid (GRd 7 (.slice (some ⟨g,k*7,none⟩) (os.length-k) (cx-k)) ((os.map encE).drop k) W4):=by
        have h:=hro.drop k hk;rw[show (some (⟨g,0,none⟩:Addr)).map (·.add (k*7))=some ⟨g,k*7,none⟩ by simp only[Option.map_some,Addr.add,Nat.zero_add];split<;>simp_all] at h
        exact h
       have HZ4:Hid (w0.heap.size<=W4.heap.size):=HB4.out.size;have HWJ:Hid (w0.heap.size<=wj.heap.size):=HBJ.out.size;have hdl:((os.map encE).drop k).length=os.length-k:=by rw[List.length_drop,Zf]
       obtain⟨av,cw,hv76⟩:=hr76.form;subst hv76;clear hr76 hb4 hro;gi_wp2_with (gi_at_builtin;refine Z7 (fun g=>w0.heap.size<=g) 119 _ 7 136 info_rrec rfl (by decide) rfl _ _ _ Tryz.underlying63 rfl _ (k+1) ((os.take k++[x]).map encE) (by rfl) (HR76.out.mono (fun g hg=>Nat.le_trans HWJ.out hg)) _ ((os.map encE).drop k) (by first|rfl) (by first|exact HD0.out (by assumption)|exact HD1.out|exact HD2.out) (by rw[hdl];omega) (by omega) HZ4.out ?_;intro v81 w81 hrow81 hgr81;have HR81:=Hd hrow81;have HG81:=Hd hgr81;clear hrow81 hgr81)
       all_goals
        gi_wp2_with fail
        refine⟨⟨i+1,os.take k++x::os.drop k,hlt,by go_num,by simp[List.length_take];omega,?_,?_,?_⟩,by simp[intOf];omega⟩
        ·show _=_
         rw[HIN.out,HPS.out,HPT.out]
         first|(simp[plE,List.map_take,List.map_drop];done)|(rw[List.take_of_length_le (Nat.le_of_eq (zH os)),Zz (Nat.le_of_eq (zH os)),List.take_length,List.drop_length];simp[plE])
        ·exact HB4.out.grown HG81.out HB4.out.size (fun g hg=>Nat.le_trans HWJ.out (HR76.out.2 g hg))
        ·have:=HR81.out
         rw[hdl] at this;rw[show (os.take k++x::os.drop k).length=k+1+(os.length-k) by simp[List.length_take]<;>omega,List.flatMap_def,show (os.take k++x::os.drop k).map encE=(os.take k++[x]).map encE++(os.map encE).drop k by simp[List.map_drop]]
         exact this
   ·have hkz:¬(k:Int)<(os.length:Int):=by omega
    obtain rfl:k=os.length:=by omega
    have HPT:Hid (Rc.put x.1.2 ((plE os).drop os.length)=x.1.2::(plE os).drop os.length):=by
     show _=_;rw[Zz (by rw[zH];exact Zh _)];rfl
    gi_wp2_with fail
    refine Z8 (List.range 16) (fun _=>True) 16 rfl (by kernel_rfl) ?_
    intro wa hwa;have HBA:Hid (Below wo.heap.size wo wa):=by subst hwa;exact HBK.out.drew
    have hS:True:=trivial;clear hwa;refine tA 0 hS ?_;refine tA 1 hS ?_;refine tA 2 hS ?_;refine tA 3 hS ?_;refine tA 4 hS ?_;simp only[Act.put,Za,Zd,Zc];refine tU 5 hS ?_;refine tU 6 hS ?_;refine tU 7 hS ?_;refine tU 8 hS ?_;refine tU 9 hS ?_;refine tU 10 hS ?_;refine tU 11 hS ?_;refine tU 12 hS ?_;refine tU 13 hS ?_;refine tU 14 hS ?_;simp only[Act.put,Za,Zd,Zc];refine tA 15 hS ?_;simp only[Act.put,Za,Zd,Zc];refine Z9 (by kernel_rfl) ?_
    clear hS;gi_wp2_with fail
    refine Z8 (List.range 15) (fun _=>True) 15 rfl (by kernel_rfl) ?_
    intro wd hwd;have HBD:Hid (Below wo.heap.size wo wd):=by subst hwd;exact HBA.out.drew
    have hS:True:=trivial;clear hwd;refine tA 0 hS ?_;refine tA 1 hS ?_;refine tA 2 hS ?_;refine tA 3 hS ?_;refine tA 4 hS ?_;simp only[Act.put,Za,Zd,Zc];refine tU 5 hS ?_;refine tU 6 hS ?_;refine tU 7 hS ?_;refine tU 8 hS ?_;refine tU 9 hS ?_;refine tU 10 hS ?_;refine tU 11 hS ?_;refine tU 12 hS ?_;refine tU 13 hS ?_;simp only[Act.put,Za,Zd,Zc];refine tA 14 hS ?_;simp only[Act.put,Za,Zd,Zc];refine Z9 (by kernel_rfl) ?_
    clear hS;have hkz2:(os.length:Int)<=(cx:Int):=by omega
    gi_wp2_with fail
    refine Z8 [0,4,8,10] (Cs [(e,.slice p0 n0 q0),(⟨e.block,e.off+1,none⟩,.int .u32 (x.1.2.ttl:Int)),(⟨e.block,e.off+2,none⟩,.int .i64 x.1.2.type),(⟨e.block,e.off+3,none⟩,.slice p1 n1 q1),(⟨e.block,e.off+4,none⟩,.slice p2 n2 q2),(⟨e.block,e.off+5,none⟩,.slice p3 n3 q3),(⟨e.block,e.off+6,none⟩,.slice p4 n4 q4)]) 12 rfl (by kernel_rfl) ?_
    intro wj hwj;have HBJ:Hid (Below w0.heap.size w0 wj):=by subst hwj;exact (Z5 HB.out HBD.out).drew
    have HRJ:Hid (Row (fun g=>w0.heap.size<=g) 119 7 (.slice ox os.length cx) os.length (os.flatMap encE) wj):=by subst hwj;exact (HR.out.below HBD.out).drew
    have hS:Cs [(e,.slice p0 n0 q0),(⟨e.block,e.off+1,none⟩,.int .u32 (x.1.2.ttl:Int)),(⟨e.block,e.off+2,none⟩,.int .i64 x.1.2.type),(⟨e.block,e.off+3,none⟩,.slice p1 n1 q1),(⟨e.block,e.off+4,none⟩,.slice p2 n2 q2),(⟨e.block,e.off+5,none⟩,.slice p3 n3 q3),(⟨e.block,e.off+6,none⟩,.slice p4 n4 q4)] wj:=HXS.out wj HBJ.out;clear hwj;refine tB 1 ?_;refine tB 2 ?_;refine tB 3 ?_;refine tB 5 ?_;refine tB 6 ?_;refine tB 7 ?_;simp only[Act.put,Za,Zd,Zc];refine tA 8 hS ?_;simp only[Act.put,Za,Zd,Zc];have HGR:Hid (GRd 7 (.slice ox os.length cx) (os.map encE) wj):=Row.grd (by rw[Zf];exact HRJ.out) (fun c hc=>by
     obtain⟨y,_,rfl⟩:=List.mem_map.1 hc;exact⟨encE_len y,y.2.1.one⟩)
    have HTK:Hid (∀W',Below wj.heap.size wj W'->GRd 7 (.slice ox os.length cx) ((os.take os.length).map encE) W'):=fun W' hW=>by
     have h:=HGR.out.take os.length cx (by omega) (by omega) (Zh _) (fun h=>by
      obtain⟨⟨_,ho⟩,_⟩:=HRJ.out;rcases ho with⟨h1,_⟩|⟨g',cap',cur,h1,_⟩
      ·simp only[Value.slice.injEq] at h1;omega
      ·first|(cases h1;done)|(simp only[Value.slice.injEq] at h1;rw[h1.1] at h;cases h)|cases h)
     rw[<-List.map_take] at h;exact h.below hW
    apply finQ (fun (_ _:Nat) (_ v76:Value) (W4:World)=>Row (fun g=>wj.heap.size<=g) 119 7 v76 (os.length+1) ((os.take os.length++[x]).map encE).flatten W4/\Below wj.heap.size wj W4)
    case h1 =>
     intro FIN;refine twoH2 0 9 (by rfl) (by rfl) (by kernel_rfl) (fun K hK=>?_) (fun K hK=>?_)
     ·gi_wp2_with fail
      obtain⟨wa,hwn0⟩:=Zq (wj.alloc (.cells #[] 119));have ha:Below wj.heap.size wj wa:=by rw[<-hwn0];exact ((Below.refl wj.heap.size wj)).alloc ((Below.refl wj.heap.size wj)).size _
      obtain⟨b66,hb66⟩:=Zq wj.heap.size;have hz66:wj.heap.size<=b66:=by rw[<-hb66];exact ((Below.refl wj.heap.size wj)).size
      have he66:Row (fun g=>wj.heap.size<=g) 119 7 (.slice (some ⟨b66,0,none⟩) 0 0) 0 ([]:List (List Value)).flatten wa:=by
       rw[<-hwn0,<-hb66];exact⟨World.ownsRow_lit wj #[] 0 (Nat.zero_le _) (by unfold maxLen;omega) rfl,fun g hg=>by cases hg;exact ((Below.refl wj.heap.size wj)).size⟩
      rw[hwn0,hb66];have HE66:=Hd he66;refine hK _ _ (fun _=>HXS.out _ (Z5 HBJ.out ha)) ?_
      clear hK K hwn0 hb66 he66;refine twoH2 4 9 (by rfl) (by rfl) (by kernel_rfl) (fun K hK=>?_) (fun K hK=>?_)
      ·have HSZ4:Hid (wj.heap.size<=wa.heap.size):=(ha).size
       have HRW4:=Hd (HE66.out);gi_wp2_with (gi_at_builtin;refine Z7 (fun g=>wj.heap.size<=g) 119 _ 7 136 info_rrec rfl (by decide) rfl _ _ _ Tryz.underlying63 rfl _ 0 [] (by rfl) HRW4.out _ ((os.take os.length).map encE) (by rfl) (HTK.out _ (ha)) (by rw[Zf,List.length_take];omega) (by omega) HSZ4.out ?_;intro v70 wb hrow70 hgr70)
       have hown70:∀g,(Value.slice (some ⟨b66,0,none⟩) 0 0).ownBlock=some g->wj.heap.size<=g:=fun g hg=>HRW4.out.2 g hg
       have hb2:Below wj.heap.size wj wb:=(ha).grown hgr70 (ha).size hown70;rw[Zm,Zf,List.length_take,Nat.zero_add,Nat.min_eq_left hk] at hrow70;have HR70:=Hd hrow70;have HGR70:=Hd hgr70;refine hK _ _ (fun _=>HXS.out _ (Z5 HBJ.out hb2)) ?_
       clear hK K hrow70 hgr70 HSZ4;refine oneH 9 (by rfl) (by kernel_rfl) (fun K hK=>?_)
       gi_wp2_with fail
       obtain⟨wc,hwn9⟩:∃W,wb.alloc (.cells #[.slice p0 n0 q0,.int .u32 (x.1.2.ttl:Int),.int .i64 x.1.2.type,.slice p1 n1 q1,.slice p2 n2 q2,.slice p3 n3 q3,.slice p4 n4 q4] 119)=W:=⟨_,rfl⟩;have hc:Below wj.heap.size wj wc:=by rw[<-hwn9];exact (hb2).alloc (hb2).size _
       obtain⟨b75,hb75⟩:=Zq wb.heap.size;have hg75:GRd 7 (.slice (some ⟨b75,0,none⟩) 1 1) [encE x] wc:=by
        rw[<-hwn9,<-hb75,HEX.out];exact GRd.new [.slice p0 n0 q0,.int .u32 (x.1.2.ttl:Int),.int .i64 x.1.2.type,.slice p1 n1 q1,.slice p2 n2 q2,.slice p3 n3 q3,.slice p4 n4 q4] rfl (by simp[Value.oneCell']) wb 119
       have ha75:Below wb.heap.size wb wc:=by rw[<-hwn9];exact Zr
       have hk75:∃c t f,wc.heap[b75]? = some (.cells c t f)/\b75+1=wc.heap.size:=by
        rw[<-hwn9,<-hb75];exact⟨_,_,_,World.alloc_heap_new wb _,by simp⟩
       rw[hwn9,hb75];have HG75:=Hd hg75;have HA75:=Hd ha75;refine hK _ _ (fun h=>absurd h (by decide)) ?_
       clear hK K hwn9 hg75 ha75;have HSZ9:Hid (wj.heap.size<=wc.heap.size):=(hc).size;have HRW9:=Hd (HR70.out.below HA75.out);have HGW9:=Hd (HG75.out);refine oneH 10 (by rfl) (by kernel_rfl) (fun K hK=>?_)
       gi_wp2_with (gi_at_builtin;refine Z7 (fun g=>wj.heap.size<=g) 119 _ 7 136 info_rrec rfl (by decide) rfl _ _ _ Tryz.underlying63 rfl _ os.length ((os.take os.length).map encE) (by rfl) HRW9.out _ [encE x] (by rfl) HGW9.out (by simp;omega) (by omega) HSZ9.out ?_;intro v76 wd hrow76 hgr76)
       have hd:Below wj.heap.size wj wd:=(hc).grown hgr76 (hc).size (fun g hg=>HRW9.out.2 g hg)
       have HR76:=Hd hrow76;refine hK _ _ (fun _=>HXS.out _ (Z5 HBJ.out hd)) ?_
       clear hK K hrow76 hgr76 HSZ9;refine oneH 11 (by rfl) (by kernel_rfl) (fun K hK=>?_)
       gi_wp2_with fail
       refine hK _ _ (fun h=>absurd h (by decide)) ?_
       clear hK K;refine Z9 (by kernel_rfl) ?_
       have hfr:=HR76.out;rw[<-List.map_singleton (f:=encE),<-List.map_append] at hfr;apply FIN b66 b75 v70 v76 wd
       exact⟨hfr,hd⟩
      ·gi_wp2_with fail
       obtain⟨wb,hwn9⟩:∃W,wa.alloc (.cells #[.slice p0 n0 q0,.int .u32 (x.1.2.ttl:Int),.int .i64 x.1.2.type,.slice p1 n1 q1,.slice p2 n2 q2,.slice p3 n3 q3,.slice p4 n4 q4] 119)=W:=⟨_,rfl⟩;have hb2:Below wj.heap.size wj wb:=by rw[<-hwn9];exact (ha).alloc (ha).size _
       obtain⟨b75,hb75⟩:=Zq wa.heap.size;have hg75:GRd 7 (.slice (some ⟨b75,0,none⟩) 1 1) [encE x] wb:=by
        rw[<-hwn9,<-hb75,HEX.out];exact GRd.new [.slice p0 n0 q0,.int .u32 (x.1.2.ttl:Int),.int .i64 x.1.2.type,.slice p1 n1 q1,.slice p2 n2 q2,.slice p3 n3 q3,.slice p4 n4 q4] rfl (by simp[Value.oneCell']) wa 119
       have ha75:Below wa.heap.size wa wb:=by rw[<-hwn9];exact Zr
       have hk75:∃c t f,wb.heap[b75]? = some (.cells c t f)/\b75+1=wb.heap.size:=by
        rw[<-hwn9,<-hb75];exact⟨_,_,_,World.alloc_heap_new wa _,by simp⟩
       rw[hwn9,hb75];have HG75:=Hd hg75;have HA75:=Hd ha75;refine hK _ _ (fun h=>absurd h (by decide)) ?_
       clear hK K hwn9 hg75 ha75;have HE67:=Hd (HE66.out.below HA75.out);have hne75:b66≠b75:=by
        obtain⟨c,t,f,h1,h2⟩:=hk75;have h3:=(HE66.out.1.lt b66 rfl).2;have h4:=HA75.out.size;omega
       refine oneH 4 (by rfl) (by kernel_rfl) (fun K hK=>?_)
       have HSZ4:Hid (wj.heap.size<=wb.heap.size):=(hb2).size;have HRW4:=Hd (HE67.out);gi_wp2_with (gi_at_builtin;refine Z7 (fun g=>wj.heap.size<=g) 119 _ 7 136 info_rrec rfl (by decide) rfl _ _ _ Tryz.underlying63 rfl _ 0 [] (by rfl) HRW4.out _ ((os.take os.length).map encE) (by rfl) (HTK.out _ (hb2)) (by rw[Zf,List.length_take];omega) (by omega) HSZ4.out ?_;intro v70 wc hrow70 hgr70)
       have hown70:∀g,(Value.slice (some ⟨b66,0,none⟩) 0 0).ownBlock=some g->wj.heap.size<=g:=fun g hg=>HRW4.out.2 g hg
       have hc:Below wj.heap.size wj wc:=(hb2).grown hgr70 (hb2).size hown70;rw[Zm,Zf,List.length_take,Nat.zero_add,Nat.min_eq_left hk] at hrow70;have HR70:=Hd hrow70;have HGR70:=Hd hgr70;refine hK _ _ (fun _=>HXS.out _ (Z5 HBJ.out hc)) ?_
       clear hK K hrow70 hgr70 HSZ4;have HSZ9:Hid (wj.heap.size<=wc.heap.size):=(hc).size;have HRW9:=Hd (HR70.out);have HGW9:=Hd (GRd.grown75 HG75.out HGR70.out (by rintro g hg;simp only[Value.ownBlock,Option.some.injEq] at hg;omega))
       refine oneH 10 (by rfl) (by kernel_rfl) (fun K hK=>?_)
       gi_wp2_with (gi_at_builtin;refine Z7 (fun g=>wj.heap.size<=g) 119 _ 7 136 info_rrec rfl (by decide) rfl _ _ _ Tryz.underlying63 rfl _ os.length ((os.take os.length).map encE) (by rfl) HRW9.out _ [encE x] (by rfl) HGW9.out (by simp;omega) (by omega) HSZ9.out ?_;intro v76 wd hrow76 hgr76)
       have hd:Below wj.heap.size wj wd:=(hc).grown hgr76 (hc).size (fun g hg=>HRW9.out.2 g hg)
       have HR76:=Hd hrow76;refine hK _ _ (fun _=>HXS.out _ (Z5 HBJ.out hd)) ?_
       clear hK K hrow76 hgr76 HSZ9;refine oneH 11 (by rfl) (by kernel_rfl) (fun K hK=>?_)
       gi_wp2_with fail
       refine hK _ _ (fun h=>absurd h (by decide)) ?_
       clear hK K;refine Z9 (by kernel_rfl) ?_
       have hfr:=HR76.out;rw[<-List.map_singleton (f:=encE),<-List.map_append] at hfr;apply FIN b66 b75 v70 v76 wd
       exact⟨hfr,hd⟩
     ·gi_wp2_with fail
      obtain⟨wa,hwn9⟩:∃W,wj.alloc (.cells #[.slice p0 n0 q0,.int .u32 (x.1.2.ttl:Int),.int .i64 x.1.2.type,.slice p1 n1 q1,.slice p2 n2 q2,.slice p3 n3 q3,.slice p4 n4 q4] 119)=W:=⟨_,rfl⟩;have ha:Below wj.heap.size wj wa:=by rw[<-hwn9];exact ((Below.refl wj.heap.size wj)).alloc ((Below.refl wj.heap.size wj)).size _
      obtain⟨b75,hb75⟩:=Zq wj.heap.size;have hg75:GRd 7 (.slice (some ⟨b75,0,none⟩) 1 1) [encE x] wa:=by
       rw[<-hwn9,<-hb75,HEX.out];exact GRd.new [.slice p0 n0 q0,.int .u32 (x.1.2.ttl:Int),.int .i64 x.1.2.type,.slice p1 n1 q1,.slice p2 n2 q2,.slice p3 n3 q3,.slice p4 n4 q4] rfl (by simp[Value.oneCell']) wj 119
      have ha75:Below wj.heap.size wj wa:=by rw[<-hwn9];exact Zr
      have hk75:∃c t f,wa.heap[b75]? = some (.cells c t f)/\b75+1=wa.heap.size:=by
       rw[<-hwn9,<-hb75];exact⟨_,_,_,World.alloc_heap_new wj _,by simp⟩
      rw[hwn9,hb75];have HG75:=Hd hg75;have HA75:=Hd ha75;refine hK _ _ (fun h=>absurd h (by decide)) ?_
      clear hK K hwn9 hg75 ha75;refine oneH 0 (by rfl) (by kernel_rfl) (fun K hK=>?_)
      gi_wp2_with fail
      obtain⟨wb,hwn0⟩:=Zq (wa.alloc (.cells #[] 119));have hb2:Below wj.heap.size wj wb:=by rw[<-hwn0];exact (ha).alloc (ha).size _
      obtain⟨b66,hb66⟩:=Zq wa.heap.size;have hz66:wj.heap.size<=b66:=by rw[<-hb66];exact (ha).size
      have he66:Row (fun g=>wj.heap.size<=g) 119 7 (.slice (some ⟨b66,0,none⟩) 0 0) 0 ([]:List (List Value)).flatten wb:=by
       rw[<-hwn0,<-hb66];exact⟨World.ownsRow_lit wa #[] 0 (Nat.zero_le _) (by unfold maxLen;omega) rfl,fun g hg=>by cases hg;exact (ha).size⟩
      have hn66:wa.heap.size=b66:=hb66;have HA66:Hid (Below wa.heap.size wa wb):=by show Below _ _ _;rw[<-hwn0];exact Zr
      rw[hwn0,hb66];have HE66:=Hd he66;refine hK _ _ (fun _=>HXS.out _ (Z5 HBJ.out hb2)) ?_
      clear hK K hwn0 hb66 he66;have hne75:b66≠b75:=by
       obtain⟨c,t,f,h1,h2⟩:=hk75;have h3:=hn66;omega
      refine oneH 4 (by rfl) (by kernel_rfl) (fun K hK=>?_)
      have HSZ4:Hid (wj.heap.size<=wb.heap.size):=(hb2).size;have HRW4:=Hd (HE66.out);gi_wp2_with (gi_at_builtin;refine Z7 (fun g=>wj.heap.size<=g) 119 _ 7 136 info_rrec rfl (by decide) rfl _ _ _ Tryz.underlying63 rfl _ 0 [] (by rfl) HRW4.out _ ((os.take os.length).map encE) (by rfl) (HTK.out _ (hb2)) (by rw[Zf,List.length_take];omega) (by omega) HSZ4.out ?_;intro v70 wc hrow70 hgr70)
      have hown70:∀g,(Value.slice (some ⟨b66,0,none⟩) 0 0).ownBlock=some g->wj.heap.size<=g:=fun g hg=>HRW4.out.2 g hg
      have hc:Below wj.heap.size wj wc:=(hb2).grown hgr70 (hb2).size hown70;rw[Zm,Zf,List.length_take,Nat.zero_add,Nat.min_eq_left hk] at hrow70;have HR70:=Hd hrow70;have HGR70:=Hd hgr70;refine hK _ _ (fun _=>HXS.out _ (Z5 HBJ.out hc)) ?_
      clear hK K hrow70 hgr70 HSZ4;have HSZ9:Hid (wj.heap.size<=wc.heap.size):=(hc).size;have HRW9:=Hd (HR70.out);have HGW9:=Hd (GRd.grown75 (HG75.out.below HA66.out) HGR70.out (by rintro g hg;simp only[Value.ownBlock,Option.some.injEq] at hg;omega))
      refine oneH 10 (by rfl) (by kernel_rfl) (fun K hK=>?_)
      gi_wp2_with (gi_at_builtin;refine Z7 (fun g=>wj.heap.size<=g) 119 _ 7 136 info_rrec rfl (by decide) rfl _ _ _ Tryz.underlying63 rfl _ os.length ((os.take os.length).map encE) (by rfl) HRW9.out _ [encE x] (by rfl) HGW9.out (by simp;omega) (by omega) HSZ9.out ?_;intro v76 wd hrow76 hgr76)
      have hd:Below wj.heap.size wj wd:=(hc).grown hgr76 (hc).size (fun g hg=>HRW9.out.2 g hg)
      have HR76:=Hd hrow76;refine hK _ _ (fun _=>HXS.out _ (Z5 HBJ.out hd)) ?_
      clear hK K hrow76 hgr76 HSZ9;refine oneH 11 (by rfl) (by kernel_rfl) (fun K hK=>?_)
      gi_wp2_with fail
      refine hK _ _ (fun h=>absurd h (by decide)) ?_
      clear hK K;refine Z9 (by kernel_rfl) ?_
      have hfr:=HR76.out;rw[<-List.map_singleton (f:=encE),<-List.map_append] at hfr;apply FIN b66 b75 v70 v76 wd
      exact⟨hfr,hd⟩
    case h2 =>
     rintro b66 b75 v70 v76 W4 ⟨hr76,hb4⟩;have HR76:=Hd hr76;have HB4:=Hd (Z5 HBJ.out hb4);have hro:GRd 7 (.slice ox os.length cx) (os.map encE) W4:=HGR.out.below hb4;have HD0:=Hd (fun hc=>hro.drop0 os.length hk hc)
     have HD1:=Hd (hro.drop os.length hk);have HD2:Hid (∀(o:Option Addr) (c:Nat),c=0->GRd 7 (.slice o 0 c) ((os.map encE).drop os.length) W4):=fun o c h=>by
      rw[Zz (by rw[Zf];exact Zh _)]
      exact GRd.empty 7 o c h W4
     have HD3:Hid (GRd 7 (.slice (if cx=os.length then ox else ox.map (·.add (os.length*7))) 0 (cx-os.length)) ((os.map encE).drop os.length) W4):=by
      by_cases hc:cx=os.length
      ·rw[if_pos hc];exact HD2.out _ _ (by omega)
      ·rw[if_neg hc]
       have h:=hro.drop os.length hk;rw[Nat.sub_self] at h;exact h
     have HZ4:Hid (w0.heap.size<=W4.heap.size):=HB4.out.size;have HWJ:Hid (w0.heap.size<=wj.heap.size):=HBJ.out.size;have hdl:((os.map encE).drop os.length).length=os.length-os.length:=by rw[List.length_drop,Zf]
     obtain⟨av,cw,hv76⟩:=hr76.form;subst hv76;clear hr76 hb4 hro;gi_wp2_with (gi_at_builtin;(refine Z7 (fun g=>w0.heap.size<=g) 119 _ 7 136 info_rrec rfl (by decide) rfl _ _ _ Tryz.underlying63 rfl _ (os.length+1) ((os.take os.length++[x]).map encE) (by rfl) (HR76.out.mono (fun g hg=>Nat.le_trans HWJ.out hg)) _ ((os.map encE).drop os.length) (by first|rfl) (by first|exact HD0.out (by assumption)|exact HD1.out|exact HD3.out|exact HD2.out _ _ rfl|exact HD2.out _ _ (by omega)) (by rw[hdl];omega) (by omega) HZ4.out ?_);intro v81 w81 hrow81 hgr81;have HR81:=Hd hrow81;have HG81:=Hd hgr81;clear hrow81 hgr81)
     all_goals
      gi_wp2_with fail
      refine⟨⟨i+1,os.take os.length++x::os.drop os.length,hlt,by go_num,by simp;omega,?_,?_,?_⟩,by simp[intOf];omega⟩
      ·show _=_
       rw[HIN.out,HPS.out,HPT.out]
       first|(simp[plE];done)|(rw[List.take_of_length_le (Nat.le_of_eq (zH os)),Zz (Nat.le_of_eq (zH os)),List.take_length,List.drop_length];simp[plE])
      ·exact HB4.out.grown HG81.out HB4.out.size (fun g hg=>Nat.le_trans HWJ.out (HR76.out.2 g hg))
      ·have:=HR81.out
       rw[hdl] at this;rw[show (os.take os.length++x::os.drop os.length).length=os.length+1+(os.length-os.length) by simp<;>omega,List.flatMap_def,show (os.take os.length++x::os.drop os.length).map encE=(os.take os.length++[x]).map encE++(os.map encE).drop os.length by simp]
       exact this
end Go.Proofs.YtgmbefolgppmdaaGreat
