/- Zones: where a name lies; what encloses it; the star that it has. -/
import Derived.Test.YtgmbefolgppmdaaGreatLZnA
import Derived.Test.YtgmbefolgppmdaaGreatLAli
namespace Go.Proofs.YtgmbefolgppmdaaGreat
open Go.RowKit Go.Shelf Go.Sort
set_option maxRecDepth 100000
section
attribute [local go_sem] Oper.semAt_some
theorem Zn.wher_not {o n:Zn.Nam} {L:List Rc.PRec} (h:Nm.under n o=false):Zn.wher o L n=0:=by unfold Zn.wher;rw[if_neg (by rw[h];exact Bool.false_ne_true)]
theorem Zn.wher_some {o n:Zn.Nam} {L:List Rc.PRec} {k:Nat} (h:Nm.under n o=true) (hc:Zn.cutAt o L n=some k):Zn.wher o L n=if n.length-k=n.length then 2 else 3:=by unfold Zn.wher;rw[if_pos h,hc];simp
set_option maxHeartbeats 1000000 in
theorem zWhere_any {w w0:World} (zo vr vn:Value) (l:List (El w)) (o n:List (List UInt8)) (hb0:Below w.heap.size w w0) (hv:RecsRd vr (l.map (·.1)) w0) (na:l.length<=1000) (ho:Rd zo o w0) (no:NB o) (hn:Rd vn n w0) (nn:NB n) :
  Calls Tryz.prog 52 #[.agg #[zo,vr],vn] w0 (Gives (.int .i64 (Zn.wher o (plE l) n)) w0):=by
 obtain⟨oo,co,rfl,_,_⟩:=ho.form;obtain⟨on,cn,rfl,_,_⟩:=hn.form;obtain⟨ov,cv,rfl⟩:∃o cap,vr=.slice o l.length cap:=by obtain⟨_,o,cap,h,_⟩:=hv;exact⟨o,cap,by rw[h,Zf]⟩
 obtain⟨W1,hW1⟩:=Zq (w0.alloc (.cells #[.slice oo o.length co,.slice ov l.length cv] 54));have hbW:Below w0.heap.size w0 W1:=by subst hW1;exact Zr
 have b0:Blk w0.heap.size #[.slice oo o.length co,.slice ov l.length cv] 54 W1:=by subst hW1;exact Blk.new w0 _ _
 have c00:W1.cell? ⟨w0.heap.size,0,none⟩=some _:=b0.cell 0;have c01:W1.cell? ⟨w0.heap.size,1,none⟩=some _:=b0.cell 1;have HB:=Hd hbW;have B0:=Hd b0;have HC:=Hd (fun w1 (b1:Below W1.heap.size W1 w1)=>zCutOf_any (w0:=w1) _ _ _ l o n (Z5 (Z5 hb0 hbW) b1) ((hv.kept hbW).kept b1) na ((ho.below hbW).below b1) no ((hn.below hbW).below b1) nn)
 have HN:=Hd (hn.below hbW);have HO:=Hd (ho.below hbW);have NN:=Hd nn;have NO:=Hd no;have ln:(n.length:Int)<=1000:=by have:=nn.1;omega
 have lo:(o.length:Int)<=1000:=by have:=no.1;omega
 clear hv hn ho nn no hb0 hbW b0;rcases hu:Nm.under n o with _|_
 ·have HU:=Hd hu
  clear hu
  go_enter Tryz.func52,Tryz.ntmps52
  go_wp2_with fail
  refine (nUnder_any _ _ n o _ HN.out HO.out NN.out NO.out).mono ?_;rintro e w1 ⟨rfl,b1⟩;rw[HU.out];go_wp2_with fail
  go_ret
  exact⟨by rw[Zn.wher_not HU.out];rfl,Z5 HB.out b1⟩
 ·have HU:=Hd hu
  clear hu;rcases hc:Zn.cutAt o (plE l) n with _|k
  ·have HK:=Hd hc
   have HI:=Hd (Zn.cut_none hc);clear hc
   go_enter Tryz.func52,Tryz.ntmps52
   go_wp2_with fail
   refine (nUnder_any _ _ n o _ HN.out HO.out NN.out NO.out).mono ?_;rintro e w1 ⟨rfl,b1⟩;rw[HU.out];have d00:w1.cell? ⟨w0.heap.size,0,none⟩=some _:=(B0.out.below b1).cell 0;have d01:w1.cell? ⟨w0.heap.size,1,none⟩=some _:=(B0.out.below b1).cell 1;have hb1:=Z5 HB.out b1;have HC1:=Hd (HC.out _ b1);clear b1;go_wp2_with fail
   refine HC1.out.mono ?_;rintro e w2 ⟨v2,rfl,r2,b2⟩;rw[HI.out.1];rw[HI.out.2] at r2;obtain⟨o2,c2,rfl,_,_⟩:=r2.form;go_wp2_with fail
   go_ret
   exact⟨by rw[Zn.wher_none HU.out HK.out];rfl,Z5 hb1 b2⟩
  ·have hw:=Zn.wher_some HU.out hc
   have HK:=Hd hc;have HI:=Hd (Zn.cut_some hc);have hk:=Zn.cutAt_some hc;have hcl:(n.drop k).length=n.length-k:=by simp
   clear hc;obtain⟨m,hm⟩:=Zq (n.length-k);rw[hm] at hw hcl;have HW:=Hd hw;have hm1:m<=n.length:=by omega
   clear hw hk hm;obtain⟨x,hx⟩:=Zq (n.drop k);rw[hx] at hcl;have HX:=Hd hx;clear hx;by_cases hl:m=n.length
   ·have HL:=Hd hl
    have hlz:((m:Int) == (n.length:Int))=true:=by simp[hl]
    have hlz2:decide (m=n.length)=true:=by simp[hl]
    clear hl
    go_enter Tryz.func52,Tryz.ntmps52
    go_wp2_with fail
    refine (nUnder_any _ _ n o _ HN.out HO.out NN.out NO.out).mono ?_;rintro e w1 ⟨rfl,b1⟩;rw[HU.out];have d00:w1.cell? ⟨w0.heap.size,0,none⟩=some _:=(B0.out.below b1).cell 0;have d01:w1.cell? ⟨w0.heap.size,1,none⟩=some _:=(B0.out.below b1).cell 1;have hb1:=Z5 HB.out b1;have HC1:=Hd (HC.out _ b1);clear b1;go_wp2_with fail
    refine HC1.out.mono ?_;rintro e w2 ⟨v2,rfl,r2,b2⟩;rw[HI.out.1];rw[HI.out.2,HX.out] at r2;obtain⟨o2,c2,rfl,_,_⟩:=r2.form;clear r2;rw[hcl];go_wp2_with fail
    go_ret
    exact⟨by rw[HW.out,if_pos HL.out];rfl,Z5 hb1 b2⟩
   ·have HL:=Hd hl
    have hlz:((m:Int) == (n.length:Int))=false:=by rw[beq_eq_false_iff_ne];omega
    have hlz2:decide (m=n.length)=false:=by rw[decide_eq_false_iff_not];omega
    clear hl
    go_enter Tryz.func52,Tryz.ntmps52
    go_wp2_with fail
    refine (nUnder_any _ _ n o _ HN.out HO.out NN.out NO.out).mono ?_;rintro e w1 ⟨rfl,b1⟩;rw[HU.out];have d00:w1.cell? ⟨w0.heap.size,0,none⟩=some _:=(B0.out.below b1).cell 0;have d01:w1.cell? ⟨w0.heap.size,1,none⟩=some _:=(B0.out.below b1).cell 1;have hb1:=Z5 HB.out b1;have HC1:=Hd (HC.out _ b1);clear b1;go_wp2_with fail
    refine HC1.out.mono ?_;rintro e w2 ⟨v2,rfl,r2,b2⟩;rw[HI.out.1];rw[HI.out.2,HX.out] at r2;obtain⟨o2,c2,rfl,_,_⟩:=r2.form;clear r2;rw[hcl];go_wp2_with fail
    go_ret
    exact⟨by rw[HW.out,if_neg HL.out];rfl,Z5 hb1 b2⟩
end
section
namespace Rs
open Rc
def P (x y:PRec):Bool:=(x.type == y.type)&&Nm.same x.owner y.owner
def run (x:PRec) (l:List PRec):Nat:=(l.takeWhile (P x)).length
def ttl (x:PRec) (l:List PRec):Nat:=l.foldl (fun m r=>min m r.ttl) x.ttl
structure PSet where
 owner:List (List UInt8)
 type:Int
 ttl:Nat
 data:List PRec
def mk (x:PRec) (l:List PRec):PSet:=⟨x.owner,x.type,ttl x (l.take (run x l)),l.take (run x l)⟩
def sets:Nat->List PRec->List PSet
 | 0,_=>[]
 | _,[]=>[]
 | f+1,x::l=>mk x (x::l)::sets f ((x::l).drop (run x (x::l)))
theorem P_refl (x:PRec):P x x=true:=by simp[P,Nm.same]
theorem run_le (x:PRec) (l:List PRec):run x l<=l.length:=List.takeWhile_sublist _ |>.length_le
theorem run_pos (x:PRec) (l:List PRec):0<run x (x::l):=by unfold run;rw[List.takeWhile_cons_of_pos (P_refl x)];simp
theorem run_of (x:PRec):∀(l:List PRec) (n:Nat),n<=l.length->(∀j (h:j<l.length),j<n->P x l[j]=true)->(∀h:n<l.length,P x l[n]=false)->run x l=n
 | [],n,hn,_,_=>by simp at hn;subst hn;rfl
 | y::l,0,_,_,hs=>by
  have:=hs (by simp)
  unfold run;rw[List.takeWhile_cons_of_neg (by simpa using this)];rfl
 | y::l,n+1,hn,h,hs=>by
  have h0:=h 0 (by simp) (by omega)
  have ih:=run_of x l n (by simpa using hn) (fun j hj hjn=>h (j+1) (by simpa using hj) (by omega)) (fun hj=>hs (by simpa using hj))
  unfold run at ih ⊢;rw[List.takeWhile_cons_of_pos (by simpa using h0),Ze,ih]
theorem ttl_snoc (x y:PRec) (l:List PRec):ttl x (l++[y])=min (ttl x l) y.ttl:=by simp[ttl]
end Rs
def encD {w:World} (x:El w):List Value:=(encE x).drop 2
theorem encD_len {w:World} (x:El w):(encD x).length=5:=by simp[encD,encE_len]
def DatsRd {w:World} (v:Value) (l:List (El w)) (W:World):Prop :=
 ∃o cap,v=.slice o l.length cap/\l.length<=cap/\cap<=maxLen/\(o=none->cap=0)/\∀j (h:j<(l.flatMap encD).length),∃a,o=some a/\W.cell? (a.add j)=some (l.flatMap encD)[j]
theorem DatsRd.cells_kept {w:World} {v} {l:List (El w)} {W W':World} (h:DatsRd v l W) (hk:CellsKept W W'):DatsRd v l W':=by
 obtain⟨o,cap,h1,h2,h3,h4,h5⟩:=h;refine⟨o,cap,h1,h2,h3,h4,fun j hj=>?_⟩
 obtain⟨a,ha,hc⟩:=h5 j hj;exact⟨a,ha,hk.cell hc⟩
theorem DatsRd.below {w:World} {v} {l:List (El w)} {W W':World} (h:DatsRd v l W) (hb:Below W.heap.size W W'):DatsRd v l W':=h.cells_kept (CellsKept.below hb)
theorem DatsRd.nil {w:World} (W:World):DatsRd (w:=w) (.slice none 0 0) [] W:=⟨none,0,rfl,by simp,by unfold maxLen;omega,fun _=>rfl,fun j h=>by simp at h⟩
theorem DatsRd.form {w:World} {v} {l:List (El w)} {W:World} (h:DatsRd v l W):∃o cap,v=.slice o l.length cap/\l.length<=cap/\cap<=maxLen:=by
 obtain⟨o,cap,h1,h2,h3,_⟩:=h;exact⟨o,cap,h1,h2,h3⟩
theorem Row.dats {w W:World} {R:Nat->Prop} {v:Value} {l:List (El w)} (h:Row R 107 5 v l.length (l.flatMap encD) W):DatsRd v l W:=by
 obtain⟨⟨hl,ho⟩,_⟩:=h;rcases ho with⟨rfl,h0⟩|⟨g,cap,cur,rfl,_,hg,h1,h2,h3,h4⟩
 ·have:l=[]:=List.length_eq_zero_iff.1 h0
  subst this;exact DatsRd.nil W
 ·refine⟨some ⟨g,0,none⟩,cap,rfl,h1,h2,(fun h=>by cases h),fun j hj=>⟨_,rfl,?_⟩⟩
  have hadd:(⟨g,0,none⟩:Addr).add j=⟨g,j,none⟩:=by unfold Addr.add;split<;>simp_all
  rw[hadd,cell_of_row W g j _ _ _ hg];have:=congrArg (fun l=>l[j]?) h4
  have hj':=hj;rw[flat_len encD 5 encD_len] at hj';simp only[List.getElem?_take,hj',if_true] at this;rw[<-zN hj,<-this];simp
theorem info_dat:(Tryz.prog.info? 107).map (fun i=>(i.zero,i.size,i.bytes))=some (some (.agg #[.int .i64 0,.slice none 0 0,.slice none 0 0,.slice none 0 0,.slice none 0 0]),5,104):=by kernel_rfl
theorem encD_one {w:World} {l:List (El w)}:∀u∈l.flatMap encD,u.oneCell'=true:=by
 intro u hu;obtain⟨x,_,hx⟩:=List.mem_flatMap.1 hu;exact x.2.1.one u (List.mem_of_mem_drop hx)
section
variable {F:Fence} {n:Nat}
theorem append_dats {w0:World} (R:Nat->Prop) {ops:Array Oper} {rest:List Oper} {o:Oper} {a:Act} {w:World} {Q:Exit->Act->World->Prop}
  (hg:o.guard=none) (s x:Operand) (t:TypeId) (ht:Tryz.prog.underlying t=some (.slice 107)) (hop:o.op=Op.call { callee:=Callee.builtin Builtin.append,args:=#[s,x],argTypes:=#[t,t] })
  (v:Value) (k:Nat) (xs:List Value) (hs:a.eval s=v) (hrow:Row R 107 5 v k xs w) (u:Value) (l:List (El w0)) (hx:a.eval x=u) (hu:DatsRd u l w) (hb:k+l.length<=100000) (hR:R w.heap.size)
  (hK:∀v' w',Row R 107 5 v' (k+l.length) (xs++l.flatMap encD) w'->w.grownBy w' v.ownBlock->wpListIn F n Tryz.prog ops Q rest (a.put o.dst v') w') :
  wpListIn F n Tryz.prog ops Q (o::rest) a w:=by
 obtain⟨i0,hi,hz0,hz1,hz2⟩:=info_parts info_dat;obtain⟨oa,cap,rfl,h1,h2,h3,h4⟩:=hu;cases oa with
 | none =>
  obtain rfl:cap=0:=h3 rfl;have hl:l=[]:=List.length_eq_zero_iff.1 (by omega)
  subst hl;refine wpListIn_plain hg fun K hK'=>?_
  have hrun:=run_append_owned_none (P:=Tryz.prog) (w:=w) 0 t o.type 107 i0 5 ht hi v k _ hrow.1;unfold Oper.wpIn;refine⟨?_,?_⟩
  ·simp[Oper.about,hop,resolve,Target.leads,Sem.run_pure]
  ·rw[Oper.semAt_plain F _ _ (by rw[hop];intro c hc';cases hc')]
   simp only[Zg] at hx;simp[execOp,hop,resolve,invoke,builtin,hs,hx,hrun,Result.andThen];exact hK' _ _ (hK _ _ (by simpa using hrow) ⟨rfl,rfl,rfl,Zh _,fun _ _ _=>rfl⟩)
 | some ad =>
  refine append_in R hg s x t hop 107 i0 _ 5 104 ht hi hz0 hz1 hz2 rfl (by decide) v k xs hs hrow ad l.length cap (l.flatMap encD) hx (flat_len encD 5 encD_len l) (fun j u hj=>?_) encD_one (by unfold maxLen;omega) (by omega) hR (fun v' w' hr hgr _=>hK v' w' hr hgr)
  obtain⟨hjl,rfl⟩:=List.getElem?_eq_some_iff.1 hj;obtain⟨a',ha,hc⟩:=h4 j hjl;cases ha;exact hc
end
theorem dats_one {w W:World} (x:El w) {cs:Array Value} (hc:encD x=cs.toList):DatsRd (.slice (some ⟨W.heap.size,0,none⟩) 1 1) [x] (W.alloc (.cells cs 107)):=by
 refine⟨_,_,rfl,Zh _,by unfold maxLen;omega,(fun h=>by cases h),fun j hj=>⟨_,rfl,?_⟩⟩
 have hadd:(⟨W.heap.size,0,none⟩:Addr).add j=⟨W.heap.size,j,none⟩:=by unfold Addr.add;split<;>simp_all
 rw[hadd,cell_of_row (W.alloc (.cells cs 107)) W.heap.size j _ 107 (0,0) (World.alloc_heap_new W _)];have he:[x].flatMap encD=cs.toList:=by rw[<-hc];simp
 simp only[he] at hj ⊢;simp
set_option maxHeartbeats 1000000 in
theorem clipDat_any {w:World} (o:Option Addr) (cap:Nat) (l:List (El w)) (W:World) (hv:DatsRd (.slice o l.length cap) l W) (hn:l.length<=10000) :
  Calls Tryz.prog 105 #[.slice o l.length cap] W fun e w'=>e=.returned (.slice o l.length l.length)/\w'=W:=by
 have n1:(l.length:Int)<=10000:=by omega
 obtain⟨_,_,e0,h1,h2,h3,h4⟩:=id hv;cases e0;unfold maxLen at h2;clear h3 h4 hv
 go_enter Tryz.func105,Tryz.ntmps105
 go_wp2_with fail
 go_ret
 exact⟨rfl,rfl⟩
theorem DatsRd.clip {w:World} {o:Option Addr} {cap:Nat} {l:List (El w)} {W:World} (hv:DatsRd (.slice o l.length cap) l W):DatsRd (.slice o l.length l.length) l W:=by
 obtain⟨_,_,e0,h1,h2,h3,h4⟩:=hv;cases e0;exact⟨o,l.length,rfl,Zh _,by omega,fun h=>by have:=h3 h;omega,h4⟩
theorem DatsRd.set {w:World} {o:Option Addr} {n cap:Nat} {l:List (El w)} {W:World} (hv:DatsRd (.slice o n cap) l W) {b i:Nat} (hb:∀a,o=some a->a.block≠b) (u:Value):DatsRd (.slice o n cap) l (W.setCell ⟨b,i,none⟩ u):=by
 obtain⟨o',cap',e0,h1,h2,h3,h4⟩:=hv;refine⟨o',cap',e0,h1,h2,h3,fun j hj=>?_⟩
 obtain⟨a,ha,hc⟩:=h4 j hj;have ho:o=some a:=by cases e0;exact ha
 refine⟨a,ha,?_⟩;rw[World.cell?_of_block (Below.heap_setCell _ _ _ _ (by rw[add_block];exact hb a ho))];exact hc
theorem flat_drop {α:Type} (enc:α->List Value) (k:Nat) (hk:∀x,(enc x).length=k) (l:List α) (i:Nat) (hi:i<=l.length):(l.drop i).flatMap enc=(l.flatMap enc).drop (i*k):=by
 have h1:l.flatMap enc=(l.take i).flatMap enc++(l.drop i).flatMap enc:=by rw[<-List.flatMap_append,List.take_append_drop]
 have h2:((l.take i).flatMap enc).length=i*k:=by rw[flat_len enc k hk,List.length_take,Nat.min_eq_left hi]
 rw[h1,List.drop_append,h2,Nat.sub_self,List.drop_zero,Zz (Nat.le_of_eq h2),Zm]
theorem RecsRd.sub {w:World} {o:Option Addr} {cap:Nat} {l:List (El w)} {W:World} (h:RecsRd (.slice o l.length cap) (l.map (·.1)) W) (i j c:Nat) (hi:i<=j) (hj:j<=l.length) (hc:c<=cap-i) (hcl:j-i<=c) :
  RecsRd (.slice (o.map (·.add (i*7))) (j-i) c) (((l.drop i).take (j-i)).map (·.1)) W:=by
 obtain⟨h0,o1,cap1,h1,h2,h3,h4,h5⟩:=h;rw[Zf] at h1 h2;cases h1;have hl:((l.drop i).take (j-i)).length=j-i:=by simp;omega
 refine⟨fun x hx=>?_,o.map (·.add (i*7)),c,by rw[Zf,hl],by rw[Zf,hl];omega,by omega,fun e=>?_,fun k hk=>?_⟩
 ·obtain⟨y,hy,rfl⟩:=List.mem_map.1 hx
  exact h0 _ (List.mem_map_of_mem (List.mem_of_mem_drop (List.mem_of_mem_take hy)))
 ·have:o=none:=by cases o with
   | none=>rfl
   | some a=>cases e
  have:=h4 this;omega
 ·have hk':=hk
  rw[encP_map,flat_len encE 7 encE_len,hl] at hk';have hb:i*7+k<(encP (l.map (·.1))).length:=by rw[encP_map,flat_len encE 7 encE_len];omega
  obtain⟨a,rfl,hcell⟩:=h5 (i*7+k) hb;refine⟨a.add (i*7),rfl,?_⟩;rw[add_add',hcell,<-zN hk,<-zN hb,encP_map,encP_map];have e1:((l.drop i).take (j-i)).flatMap encE=((l.drop i).flatMap encE).take ((j-i)*7):=by
   have h1:(l.drop i).flatMap encE=((l.drop i).take (j-i)).flatMap encE++((l.drop i).drop (j-i)).flatMap encE:=by rw[<-List.flatMap_append,List.take_append_drop]
   have h2:(((l.drop i).take (j-i)).flatMap encE).length=(j-i)*7:=by rw[flat_len encE 7 encE_len,hl]
   rw[h1,<-h2,List.take_left]
  rw[e1,List.getElem?_take,if_pos hk',flat_drop encE 7 encE_len l i (by omega),List.getElem?_drop]
theorem RecsRd.tail {w:World} {o:Option Addr} {cap:Nat} {l:List (El w)} {W:World} (h:RecsRd (.slice o l.length cap) (l.map (·.1)) W) (i:Nat) (hi:i<=l.length):RecsRd (.slice (o.map (·.add (i*7))) (l.length-i) (cap-i)) ((l.drop i).map (·.1)) W:=by
 have h':=h.sub i l.length (cap-i) hi (Zh _) (Zh _) (by obtain⟨_,_,_,e,h1,_⟩:=h;rw[Zf] at e h1;cases e;omega)
 rwa [List.take_of_length_le (by simp)] at h'
theorem RecsRd.empty {w:World} (o:Option Addr) (W:World):RecsRd (.slice o 0 0) (([]:List (El w)).map (·.1)) W:=⟨by simp,o,0,rfl,by simp,by unfold maxLen;omega,fun _=>rfl,fun j h=>by simp[encP] at h⟩
theorem RecsRd.tail0 {w:World} {o:Option Addr} {cap:Nat} {l:List (El w)} {W:World} (h:RecsRd (.slice o l.length cap) (l.map (·.1)) W) (i:Nat) (hi:i<=l.length) (hc:cap=i):RecsRd (.slice o (l.length-i) 0) ((l.drop i).map (·.1)) W:=by
 obtain⟨_,_,_,e,h1,_⟩:=h;rw[Zf] at e h1;cases e;rw[show l.length-i=0 by omega,Zz (by omega)]
 exact RecsRd.empty _ _
set_option maxHeartbeats 1000000 in
theorem setIs_any {w:World} (x:El w) (vo vd:Value) (t:Int) (tt:Nat) (n:List (List UInt8)) (wr:World) (hb:Below w.heap.size w wr) (hn:Rd vo n wr) (nn:NB n) :
  Calls Tryz.prog 104 #[.agg #[vo,.int .i64 t,.int .u32 (tt:Int),vd],.agg (encE x).toArray] wr (Gives (.bool ((t == x.1.2.type)&&Nm.same n x.1.2.owner)) wr):=by
 obtain⟨vx,ds,h0,ho,an,am,at',ar,h1,_⟩:=x.2.1;have ex:encE x=[vx,.int .u32 (x.1.2.ttl:Int),.int .i64 x.1.2.type,an,am,at',ar]:=by show x.1.1=_;rw[h0,h1]
 rw[ex];have HO:=Hd (ho.below hb);have HN:=Hd hn;have NO:=Hd x.2.2.owner;clear ho hn hb ex h0 h1;obtain⟨bz,hz⟩:=Zq ((t == x.1.2.type));rw[hz];have hb2:∀o1 o2,Below wr.heap.size wr ((wr.alloc o1).alloc o2):=fun _ _=>(Zr).alloc (by simp) _
 have HB:=Hd hb2;clear hb2;cases bz with
 | true =>
  have h2:decide (t=x.1.2.type)=true:=by simpa using hz
  go_enter Tryz.func104,Tryz.ntmps104
  go_wp2_with fail
  refine (nSame_any _ _ _ _ _ (HN.out.below (HB.out _ _)) (HO.out.below (HB.out _ _)) nn NO.out).mono ?_;rintro e w1 ⟨rfl,b1⟩;have hb1:=(HB.out _ _).trans (b1.mono (by simp;omega))
  go_wp2_with fail
  go_ret
  exact⟨by simp,hb1⟩
 | false =>
  have h2:decide (t=x.1.2.type)=false:=by simpa using hz
  go_enter Tryz.func104,Tryz.ntmps104
  go_wp2_with fail
  go_ret
  exact⟨by simp,HB.out _ _⟩
end
end Go.Proofs.YtgmbefolgppmdaaGreat
