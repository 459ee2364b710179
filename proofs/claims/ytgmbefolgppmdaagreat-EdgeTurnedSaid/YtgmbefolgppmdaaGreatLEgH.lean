/- Flaws: a row of the call's own, sorted. -/
import Derived.Test.YtgmbefolgppmdaaGreatLSfC
import Derived.Test.YtgmbefolgppmdaaGreatLEdFb
import Derived.Test.YtgmbefolgppmdaaGreatLAli
import Derived.Test.YtgmbefolgppmdaaGreatLRcG
import Derived.Test.YtgmbefolgppmdaaGreatLGdB
import Derived.Test.YtgmbefolgppmdaaGreatLReg
namespace Go.Proofs.YtgmbefolgppmdaaGreat
open Go.RowKit Go.Shelf Go.Sort
set_option maxRecDepth 100000
section
abbrev ElG (w:World):={ x:List Value × PEg // EgRd x.1 x.2 w/\EB x.2 }
instance (w:World):Inhabited (ElG w):=⟨⟨([.int .i64 0,.slice none 0 0,.slice none 0 0,.slice none 0 0,.int .i64 0],⟨0,[],[],[],0⟩),⟨_,_,_,rfl,Rd.nil w,Rd.nil w,Rd.nil w⟩,⟨NB.nil',NB.nil',NB.nil'⟩⟩⟩
def encG {w:World} (x:ElG w):List Value:=x.1.1
def cfG {w:World} (x y:ElG w):Int:=Eg.cmp x.1.2 y.1.2
theorem ElG.cells {w:World} (x:ElG w):∃p1 n1 c1 p2 n2 c2 p3 n3 c3,encG x=[.int .i64 x.1.2.kind,.slice p1 n1 c1,.slice p2 n2 c2,.slice p3 n3 c3,.int .i64 x.1.2.server]:=by
 obtain⟨p1,n1,c1,p2,n2,c2,p3,n3,c3,e,_⟩:=x.2.1.cells;exact⟨_,_,_,_,_,_,_,_,_,e⟩
theorem encG_len {w:World} (x:ElG w):(encG x).length=5:=by obtain⟨_,_,_,_,_,_,_,_,_,e⟩:=x.cells;rw[e];rfl
theorem encG_one {w:World} (x:ElG w):∀u∈encG x,u.oneCell'=true:=by
 obtain⟨_,_,_,_,_,_,_,_,_,e⟩:=x.cells;rw[e];intro u hu;simp only[List.mem_cons,List.not_mem_nil,or_false] at hu;rcases hu with rfl|rfl|rfl|rfl|rfl<;>rfl
namespace Ed
theorem cfG_ord (w:World):Srt.Ord (ltC (cfG (w:=w))):=(Eg.cmp_cm.pull (fun x:ElG w=>x.1.2)).ord
theorem cmpOk (w w0:World) (blk off n:Nat) (hb:Below w.heap.size w w0) (hblk:w.heap.size<=blk):CmpOk 11 (encG (w:=w)) 5 cfG w0 blk off n:=by
 intro W l hs hl x y;have hw:=below_row hb hblk hs.grown;exact egCompare_any _ _ _ _ _ (x.2.1.below hw) (y.2.1.below hw) x.2.2 y.2.2
section
variable {α:Type} [Inhabited α] {enc:α->List Value}
theorem flatK_get (hk:∀x,(enc x).length=5) (l:List α) (j:Nat) (hj:j<l.length*5):(l.flatMap enc)[j]? = some (flatK enc 5 l.toArray)[j]!:=by
 rw[get_flatK _ _ _ _ (by simpa using hj)]
 have h1:j / 5<l.length:=by omega
 have h2:j % 5<5:=Nat.mod_lt _ (by omega)
 have h3:=flat_get enc 5 hk l (j / 5) (j % 5) h1 h2;rw[show j / 5*5+j % 5=j by omega] at h3
 rw[h3,get_list h1,getElem!_pos (enc l[j / 5]) (j % 5) (by rw[hk];exact h2),zN]
theorem holds_row (hk:∀x,(enc x).length=5) {g _cap:Nat} {cur:Array Value} {e:TypeId} {W:World} {l:List α} (hg:W.heap[g]? = some (.cells cur e (0,0))) (hc:cur.toList.take (l.length*5)=l.flatMap enc):HoldsK enc 5 W g 0 l.toArray:=by
 intro j hj;rw[size_flatK] at hj;have hj':j<l.length*5:=by simpa using hj
 refine⟨?_,by simp[World.frozen?,hg]⟩
 rw[Nat.zero_add,cell_of_row W g j _ _ _ hg];have:=congrArg (fun l=>l[j]?) hc
 simp only[List.getElem?_take,hj',if_true] at this;rw[flatK_get hk l j hj'] at this;simpa using this
theorem row_holds (hk:∀x,(enc x).length=5) {g:Nat} {cur:Array Value} {e:TypeId} {W:World} {l:List α} (hg:W.heap[g]? = some (.cells cur e (0,0))) (h:HoldsK enc 5 W g 0 l.toArray) (_hs:l.length*5<=cur.size):cur.toList.take (l.length*5)=l.flatMap enc:=by
 refine List.ext_getElem? fun j=>?_
 rw[List.getElem?_take];split
 ·rename_i hj
  have h1:=(h j (by rw[size_flatK];simpa using hj)).1
  rw[Nat.zero_add,cell_of_row W g j _ _ _ hg] at h1;rw[flatK_get hk l j hj];simpa using h1
 ·rename_i hj
  rw[List.getElem?_eq_none (by rw[flat_len enc 5 hk];omega)]
end
theorem agg_eflaw (w:World):(isAgg 45).run Tryz.prog w=.ok true w:=by simp[go_sem]
theorem size_eflaw (w:World):(Go.sizeOf 45).run Tryz.prog w=.ok 5 w:=by simp[go_sem]
theorem eg_cmp (args:Array Value) (w:World):(callFunc 11 args).run Tryz.prog w=.ok (.enter 11 args) w:=by simp[go_sem]
set_option maxHeartbeats 1000000 in
theorem insertion_nil (vf:Value) (w:World):Calls Tryz.prog 127 #[.slice none 0 0,.int .i64 0,.int .i64 0,vf] w fun e w'=>e=.returned (.tuple #[])/\w'=w:=by
 go_enter Tryz.func127,Tryz.ntmps127
 go_wp2
 go_loopw [8] (fun vi wr=>vi=.int .i64 1/\wr=w) (fun _ _=>0)
 case atStart=>exact⟨rfl,rfl⟩
 case round =>
  obtain⟨rfl,rfl⟩:=hrel;go_wp2
  go_end0
  exact⟨rfl,rfl⟩
set_option maxHeartbeats 1000000 in
theorem stable_nil (vf:Value) (w:World):Calls Tryz.prog 112 #[.slice none 0 0,.int .i64 0,vf] w fun e w'=>e=.returned (.tuple #[])/\w'=w:=by
 go_enter Tryz.func112,Tryz.ntmps112
 go_wp2
 go_loopw [7,8] (fun va vb wr=>va=.int .i64 0/\vb=.int .i64 20/\wr=w) (fun _ _ _=>0)
 case atStart=>exact⟨rfl,rfl,rfl⟩
 case round =>
  obtain⟨rfl,rfl,rfl⟩:=hrel;go_wp2_with fail
  refine (insertion_nil _ _).mono ?_;rintro e w1 ⟨rfl,rfl⟩;go_wp2_with fail
  go_loopw [6] (fun vs wr=>vs=.int .i64 20/\wr=w1) (fun _ _=>0)
  case atStart=>exact⟨rfl,rfl⟩
  case round =>
   obtain⟨rfl,rfl⟩:=hrel;go_wp2
   go_end0
   exact⟨rfl,rfl⟩
set_option maxHeartbeats 1000000 in
theorem sortEFlaws_any {w w0:World} (v:Value) (l:List (ElG w)) (hrow:Row (Own w) 45 5 v l.length (l.flatMap encG) w0) (hb:Below w.heap.size w w0) (hn:l.length<=100000) :
  Calls Tryz.prog 87 #[v,.func (.func 11) #[] #[]] w0 fun e w'=>e=.returned (.tuple #[])/\Row (Own w) 45 5 v l.length ((Srt.srt (ltC cfG) l).flatMap encG) w'/\Below w.heap.size w w':=by
 obtain⟨⟨hl,ho⟩,hro⟩:=hrow;rcases ho with⟨rfl,h0⟩|⟨g,cap,cur,rfl,_,hg,h1,h2,h3,h4⟩
 ·have hl0:l=[]:=List.length_eq_zero_iff.1 h0
  subst hl0
  go_enter Tryz.func87,Tryz.ntmps87
  go_wp2_with fail
  refine (stable_nil _ _).mono ?_;rintro e w1 ⟨rfl,rfl⟩;go_wp2_with fail
  go_end0
  exact⟨rfl,Row.nil _ _ _ _,hb⟩
 ·have hgo:w.heap.size<=g:=hro g rfl
  have hgl:=(Array.getElem?_eq_some_iff.1 hg).1;have hH:=holds_row (enc:=encG (w:=w)) encG_len (_cap:=cap) hg h4;have hsg:SG (encG (w:=w)) 5 w0 g 0 l.length:=⟨encG_len,fun x=>encG_one x,⟨l.toArray,by simp,hH⟩,hgl⟩
  refine (sortStable_any hsg agg_eflaw size_eflaw (by omega) cap 11 eg_cmp cfG (cmpOk w w0 g 0 l.length hb hgo) (cfG_ord w) l rfl w0 (SL.start hsg hH)).mono ?_
  rintro e w' ⟨rfl,hs⟩;obtain⟨cur',hg',hsz⟩:=hs.block hg;have hsl:(Srt.srt (ltC cfG) l).length=l.length:=Srt.srt_len l;have hH':HoldsK (encG (w:=w)) 5 w' g 0 (Srt.srt (ltC cfG) l).toArray:=by
   obtain⟨t,h⟩:=hs;obtain⟨d0,e0,R⟩:=hsg.row t;exact h.holds R.hblk R.hH (by rw[e0];simp[hsl])
  refine⟨rfl,⟨⟨by rw[flat_len encG 5 encG_len,hsl],.inr ⟨g,cap,cur',rfl,by omega,hg',h1,h2,by rw[hsz];exact h3,?_⟩⟩,hro⟩,below_row hb hgo hs.grown⟩
  have:=row_holds (enc:=encG (w:=w)) encG_len hg' hH' (by rw[hsl,hsz,h3];exact Nat.mul_le_mul_right _ h1)
  rw[hsl] at this;exact this
end Ed
end
section
namespace Eg
def fewL:PEg->List PEg->List PEg
 | x,[]=>[x]
 | x,y::l=>if cmp x y=0 then fewL x l else x::fewL y l
def few:List PEg->List PEg
 | []=>[]
 | x::l=>fewL x l
def addF (out:List PEg) (x:PEg):List PEg:=match out.getLast? with
 | none=>[x]
 | some y=>if cmp y x=0 then out else out++[x]
theorem foldl_addF:∀(l out:List PEg) (c:PEg),l.foldl addF (out++[c])=out++fewL c l
 | [],out,c=>rfl
 | y::l,out,c=>by
  have e:addF (out++[c]) y=if cmp c y=0 then out++[c] else (out++[c])++[y]:=by simp[addF]
  rw[List.foldl_cons,e,fewL];split
  ·exact foldl_addF l out c
  ·rw[foldl_addF l (out++[c]) y,List.append_assoc];rfl
theorem few_foldl (l:List PEg):l.foldl addF []=few l:=by
 cases l with
 | nil=>rfl
 | cons x l=>exact foldl_addF l [] x
theorem addF_join (o:List PEg) (y x:PEg) (h:cmp y x=0):addF (o++[y]) x=o++[y]:=by simp[addF,h]
theorem addF_more (o:List PEg) (y x:PEg) (h:cmp y x≠0):addF (o++[y]) x=(o++[y])++[x]:=by simp[addF,h]
end Eg
def plG {w:World} (l:List (ElG w)):List PEg:=l.map fun x=>x.1.2
theorem plG_snoc {w:World} (o:List (ElG w)) (y:ElG w):plG (o++[y])=plG o++[y.1.2]:=by simp[plG]
theorem info_eflaw:(Tryz.prog.info? 45).map (fun i=>(i.zero,i.size,i.bytes))=some (some (.agg #[.int .i64 0,.slice none 0 0,.slice none 0 0,.slice none 0 0,.int .i64 0]),5,88):=by kernel_rfl
def BxE (g:Nat) (c0 c1 c2 c3 c4:Value) (W:World):Prop:=W.cell? ⟨g,0,none⟩=some c0/\W.cell? ⟨g,1,none⟩=some c1/\W.cell? ⟨g,2,none⟩=some c2/\W.cell? ⟨g,3,none⟩=some c3/\W.cell? ⟨g,4,none⟩=some c4
theorem BxE.below {g c0 c1 c2 c3 c4} {W W':World} (h:BxE g c0 c1 c2 c3 c4 W) (hb:Below W.heap.size W W'):BxE g c0 c1 c2 c3 c4 W':=by
 obtain⟨h0,h1,h2,h3,h4⟩:=h;exact⟨(hb.cell (zG h0)).trans h0,(hb.cell (zG h1)).trans h1,(hb.cell (zG h2)).trans h2,(hb.cell (zG h3)).trans h3,(hb.cell (zG h4)).trans h4⟩
theorem BxE.of {W:World} {g:Nat} {c0 c1 c2 c3 c4:Value} {t:TypeId} (h:W.heap[g]? = some (.cells #[c0,c1,c2,c3,c4] t (0,0))):BxE g c0 c1 c2 c3 c4 W:=by
 refine⟨?_,?_,?_,?_,?_⟩<;>rw[cell_of_row W g _ _ _ _ h]<;>rfl
theorem flat5 {w:World} (l:List (ElG w)) (i:Nat) (hi:i<l.length) (c:Nat) (hc:c<5):(l.flatMap encG)[i*5+c]? = (encG l[i])[c]?:=flat_get encG 5 encG_len l i c hi hc
theorem Row.elG {w:World} {R:Nat->Prop} {e:TypeId} {g cap:Nat} {l:List (ElG w)} {W:World} (h:Row R e 5 (.slice (some ⟨g,0,none⟩) l.length cap) l.length (l.flatMap encG) W) (i:Nat) (hi:i<l.length) {c0 c1 c2 c3 c4:Value} (hx:encG l[i]=[c0,c1,c2,c3,c4]) :
  W.cell? ⟨g,i*5,none⟩=some c0/\W.cell? ⟨g,i*5+1,none⟩=some c1/\W.cell? ⟨g,i*5+2,none⟩=some c2/\W.cell? ⟨g,i*5+3,none⟩=some c3/\W.cell? ⟨g,i*5+4,none⟩=some c4:=by
 have hb:∀c,c<5->W.cell? ⟨g,i*5+c,none⟩=(encG l[i])[c]?:=fun c hc=>by rw[(h.cellAt (i*5+c) (by omega)).1,flat5 l i hi c hc]
 rw[hx] at hb;exact⟨hb 0 (by omega),hb 1 (by omega),hb 2 (by omega),hb 3 (by omega),hb 4 (by omega)⟩
theorem set5 (P:List Value) (n:Nat) (hn:P.length=n) (a0 a1 a2 a3 a4 b0 b1 b2 b3 b4:Value):(((((P++[a0,a1,a2,a3,a4]).set n b0).set (n+1) b1).set (n+2) b2).set (n+3) b3).set (n+4) b4=P++[b0,b1,b2,b3,b4]:=by
 subst hn;simp only[List.set_append_right _ _ (Zh _),List.set_append_right _ _ (Nat.le_add_right _ _),Nat.sub_self,Nat.add_sub_cancel_left,Zc,Zd]
theorem rs_kept5 {w wr wa wz:World} {e:TypeId} {n:Nat} {xs:List Value} {vs vo:Value} (rs:Row (Own w) e 5 vs n xs wr) (hb:Below wr.heap.size wr wa) (hgr:wa.grownBy wz vo.ownBlock) (hro:∀k,vo.ownBlock=some k->ROut w vs k):Row (Own w) e 5 vs n xs wz :=
 rs.kept fun g c t f hv hg=>by
  have hl:=(Array.getElem?_eq_some_iff.1 hg).1;rw[hgr.block g (by have:=hb.size;omega) (fun e=>(hro g e.symm).2 hv),hb.block g hl];exact hg
theorem rs_set3 {w W:World} {e:TypeId} {n g cap l b o:Nat} {xs:List Value} {u:Value} (rs:Row (Own w) e 5 (.slice (some ⟨g,0,none⟩) l cap) n xs W) (hne:g≠b):Row (Own w) e 5 (.slice (some ⟨g,0,none⟩) l cap) n xs (W.setCell ⟨b,o,none⟩ u) :=
 rs.kept fun g' c t f hv hg=>by
  have h:g=g':=by simpa[Value.ownBlock] using hv
  exact (Below.heap_setCell _ _ _ _ (by show g'≠b;omega)).trans hg
theorem rowG_grd {w:World} {R:Nat->Prop} {e:TypeId} {v:Value} {l:List (ElG w)} {W:World} (h:Row R e 5 v l.length (l.flatMap encG) W):GRd 5 v (l.map encG) W:=Row.grd (by rw[Zf,<-List.flatMap_def];exact h) (fun c hc=>by
 obtain⟨x,_,rfl⟩:=List.mem_map.1 hc;exact⟨encG_len x,encG_one x⟩)
def FewG {w:World} (l:List (ElG w)) (w0:World) (e:Ending) (w':World):Prop :=
 ∃(v':Value) (l':List (ElG w)),e=.returned v'/\GRd 5 v' (l'.map encG) w'/\plG l'=Eg.few (plG (Srt.srt (Ed.ltC cfG) l))/\l'.length<=l.length/\(∀x∈l',x∈l)/\Below w0.heap.size w0 w'
theorem eql_nil_eg (w:World) (o:Option Addr) (l c:Nat):(binOp .eql 29 (.slice o l c) (.slice none 0 0)).run Tryz.prog w=.ok (.bool o.isNone) w:=Lib.run_eql_slice_nil w _ _ o l c 0 0 Tryz.underlying29
attribute [local go_sem] eql_nil_eg
theorem row_emptyEg (w:World):Row (Own w) 45 5 (.slice (some ⟨w.heap.size,0,none⟩) 0 0) 0 [] (w.alloc (.cells #[] 45)) :=
 ⟨World.ownsRow_lit w #[] 0 (Nat.zero_le _) (by unfold maxLen;omega) rfl,fun g hg=>by cases hg;exact Zh _⟩
set_option maxHeartbeats 1000000 in
theorem cloneEg_any {w0:World} (v:Value) (l:List (ElG w0)) (w:World) (hv:GRd 5 v (l.map encG) w) (hn:l.length<=100000) :
  Calls Tryz.prog 86 #[v] w fun e w'=>∃v',e=.returned v'/\Row (Own w) 45 5 v' l.length (l.flatMap encG) w'/\Below w.heap.size w w':=by
 obtain⟨o,cap,h0,h1,h2,h3,_⟩:=id hv;rw[Zf] at h0 h1;subst h0;cases o with
 | none =>
  obtain rfl:cap=0:=h3 rfl;have hl:l=[]:=List.length_eq_zero_iff.1 (by omega)
  subst hl;clear hv
  go_enter Tryz.func86,Tryz.ntmps86
  go_wp2_with fail
  go_ret
  exact⟨_,rfl,Row.nil _ _ _ _,Below.refl _ _⟩
 | some a =>
  have HV:=Hd hv;clear hv h3;refine (zF (n:=0)).1 ?_;refine callsIn_of_wp Tryz.func86 rfl trivial ?_ rfl;simp only[Tryz.ntmps86,Zo,Ze,Zg,Nat.reduceAdd,Nat.reduceSub,Zi,Zj,Zk,Zl,Zm,Zp];gi_wp2_with (gi_at_builtin;refine Z7 (Own w) 45 _ 5 88 info_eflaw rfl (by decide) rfl _ _ _ Tryz.underlying29 rfl _ 0 [] (by rfl) (row_emptyEg w) _ (l.map encG) (by rfl) (HV.out.below (Zr)) (by rw[Zf];omega) (by omega) (by simp) ?_;intro v' w' hrow hgr)
  have hrow':Row (Own w) 45 5 v' l.length (l.flatMap encG) w':=by rw[List.flatMap_def];simpa using hrow
  go_ret
  exact⟨_,rfl,hrow',(Zr).grown hgr (by simp) (fun g hg=>by cases hg;exact Zh _)⟩
set_option maxHeartbeats 1000000 in
theorem clipEg_any {w0:World} (v:Value) (l:List (ElG w0)) (w:World) (hv:GRd 5 v (l.map encG) w) (hn:l.length<=1000000) :
  Calls Tryz.prog 28 #[v] w fun e w'=>∃v',e=.returned v'/\GRd 5 v' (l.map encG) w/\w'=w:=by
 obtain⟨o,cap,h0,h1,h2,h3,h4,h5⟩:=hv;rw[Zf] at h0 h1;subst h0;have n1:(l.length:Int)<=1000000:=by omega
 have h2':=h2;unfold maxLen at h2;have HO:=Hd (show o=none->l.length=0 from fun h=>by have:=h3 h;omega)
 have H2:=Hd h2';have H4:=Hd h4;have H5:=Hd h5;clear h3 h4 h5 h2'
 go_enter Tryz.func28,Tryz.ntmps28
 go_wp2_with fail
 go_ret
 exact⟨.slice o l.length l.length,rfl,⟨o,l.length,by rw[Zf],by rw[Zf];exact Zh _,by have:=H2.out;omega,HO.out,H4.out,H5.out⟩,rfl⟩
set_option maxHeartbeats 1000000 in
theorem fewCbG_any (ka:Int) (a1:Option Addr) (an1 ac1:Nat) (a2:Option Addr) (an2 ac2:Nat) (a3:Option Addr) (an3 ac3:Nat) (sa kb:Int) (b1:Option Addr) (bn1 bc1:Nat) (b2:Option Addr) (bn2 bc2:Nat) (b3:Option Addr) (bn3 bc3:Nat) (sb:Int) (w:World):Calls Tryz.prog 57 #[.agg #[.int .i64 ka,.slice a1 an1 ac1,.slice a2 an2 ac2,.slice a3 an3 ac3,.int .i64 sa],.agg #[.int .i64 kb,.slice b1 bn1 bc1,.slice b2 bn2 bc2,.slice b3 bn3 bc3,.int .i64 sb]] w fun e w'=>e=.returned (.agg #[.int .i64 ka,.slice a1 an1 ac1,.slice a2 an2 ac2,.slice a3 an3 ac3,.int .i64 sa])/\Below w.heap.size w w':=by
 have mixed:Tryz.prog.follows .mixedOrders=true:=by kernel_rfl
 go_enter Tryz.func57,Tryz.ntmps57
 go_wp2_with fail
 refine bodyPost_ret (by simp[results,Tryz.results57,go_sem];try rfl) rfl ?_
 exact⟨rfl,((Zr).alloc (by simp) _).alloc (by simp;omega) _⟩
set_option maxHeartbeats 4000000 in
theorem egFew_any {w:World} (v:Value) (l:List (ElG w)) (hv:GRd 5 v (l.map encG) w) (hn:l.length<=50000) :
  Calls Tryz.prog 56 #[v,.func (.func 11) #[] #[],.func (.func 57) #[] #[]] w (FewG l w):=by
 have HV:=Hd hv;have nz:(l.length:Int)<=50000:=by omega
 have HN:=Hd hn;clear hv hn;refine (zF (n:=0)).1 ?_;refine callsIn_of_wp Tryz.func56 rfl trivial ?_ rfl;simp only[Tryz.ntmps56,Zo,Ze,Zg,Nat.reduceAdd,Nat.reduceSub,Zi,Zj,Zk,Zl,Zm,Zp];gi_wp2_with (gi_at_call 86;refine (callsIn_wide.2 (cloneEg_any _ _ _ HV.out (by have:=HN.out;omega))).mono ?_;rintro e w1 ⟨vs,rfl,r1,b1⟩)
 have hsort:=Ed.sortEFlaws_any vs l r1 b1 (by have:=HN.out;omega)
 have HSO:=Hd hsort;clear hsort r1 b1;gi_wp2_with (gi_at_call 87;refine (callsIn_wide.2 HSO.out).mono ?_;rintro e w2 ⟨rfl,r2,b2⟩;obtain⟨sa,scap,rfl⟩:=r2.form)
 obtain⟨s,hs⟩:∃s,Srt.srt (Ed.ltC (cfG (w:=w))) l=s:=⟨_,rfl⟩;have hsl:s.length=l.length:=by rw[<-hs];exact Srt.srt_len l
 have HMEM:Hid (∀y∈s,y∈l):=fun y hy=>by rw[<-hs] at hy;exact ((Srt.srt_st (Ed.cfG_ord w) l).2.mem (Ed.cfG_ord w)).1 hy
 rw[hs] at r2;have HS:=Hd hs;have HSL:=Hd hsl;clear hs HSO
 gi_loopw [7,18] (fun vo vi wr=>∃(i:Nat) (os:List (ElG w)),vi=.int .i64 i/\Hid (i<=l.length/\os.length<=i/\plG os=(plG (s.take i)).foldl Eg.addF []/\∀x∈os,x∈s)/\Row (ROut w (.slice sa l.length scap)) 45 5 vo os.length (os.flatMap encG) wr/\Row (Own w) 45 5 (.slice sa l.length scap) l.length (s.flatMap encG) wr/\Below w.heap.size w wr) (fun _ vi _=>l.length-(intOf vi).toNat)
 case atStart=>exact⟨0,[],rfl,⟨by omega,by simp,rfl,by simp⟩,Row.nil _ _ _ _,r2,b2⟩
 case round =>
  clear r2 b2;obtain⟨i,os,rfl,HI,ro,rs,hb⟩:=hrel;by_cases hlt:i<l.length
  ·have hltz:(i:Int)<(l.length:Int):=by omega
   have hls:i<s.length:=by rw[HSL.out];exact hlt
   obtain⟨x,hx⟩:=Zq (s[i]);obtain⟨p0,n0,q0,p1,n1,q1,p2,n2,q2,ex⟩:=x.cells;have hx':s[i]? = some x:=by rw[zN hls,hx]
   have HX:=Hd (And.intro hx' ex);obtain⟨g,hg⟩:∃g,sa=some ⟨g,0,none⟩:=by
    obtain⟨⟨_,ho⟩,_⟩:=rs;rcases ho with⟨h0,h1⟩|⟨g,cap,cur,h0,_⟩
    ·omega
    ·cases h0;exact⟨g,rfl⟩
   subst hg;obtain⟨e0,e1,e2,e3,e4⟩:=Row.elG (l:=s) (by rw[HSL.out];exact rs) i hls (by rw[hx];exact ex)
   have RS:=Hd rs;have RO:=Hd ro;have HB:=Hd hb;obtain⟨oa,ocap,rfl⟩:=ro.form;have HNX:Hid (plG (s.take (i+1))=plG (s.take i)++[x.1.2]):=by
    show _=_;have:s.take (i+1)=s.take i++[x]:=by rw[List.take_add_one,hx'];rfl
    rw[this];simp[plG]
   have hgl:g<wr.heap.size:=(rs.1.lt g rfl).2;clear hx hx' ex rs ro hb hlt hls;rcases List.eq_nil_or_concat os with rfl|⟨o,y,rfl⟩
   ·gi_wp2_with fail
    refine Z8 [] (fun _=>True) 13 rfl (by kernel_rfl) ?_
    intro w' hw';have hbx:BxE wr.heap.size (.int .i64 x.1.2.kind) (.slice p0 n0 q0) (.slice p1 n1 q1) (.slice p2 n2 q2) (.int .i64 x.1.2.server) w':=by
     subst hw';exact BxE.of (World.alloc_heap_new wr _)
    have hb1:Below wr.heap.size wr w':=by subst hw';exact (Zr).drew
    clear hw';obtain⟨c0,c1,c2,c3,c4⟩:=hbx;refine tB 0 ?_;refine tB 1 ?_;refine tB 2 ?_;simp only[Act.put,Za,Zd,Zc];refine tV 3 ?_;refine tV 4 ?_;refine tV 5 ?_;refine tV 6 ?_;simp only[Act.put,Za,Zd,Zc];refine tV 7 ?_;refine tV 8 ?_;refine tV 9 ?_;simp only[Act.put,Za,Zd,Zc];refine tV 10 ?_;refine tV 11 ?_;simp only[Act.put,Za,Zd,Zc];refine tB 12 ?_;simp only[Act.put,Za,Zd,Zc];refine Z9 (by kernel_rfl) ?_
    have hb2:=Z5 HB.out hb1;have HB2:=Hd hb2;have HB1:=Hd hb1;clear hb1 hb2;have RO2:Hid (Row (ROut w (.slice (some ⟨g,0,none⟩) l.length scap)) 45 5 (.slice oa 0 ocap) 0 [] (w'.alloc (.cells #[.int .i64 x.1.2.kind,.slice p0 n0 q0,.slice p1 n1 q1,.slice p2 n2 q2,.int .i64 x.1.2.server] 45))):=(Row.below RO.out HB1.out).alloc _;have HRR:Hid (∀k,w'.heap.size<=k->ROut w (.slice (some ⟨g,0,none⟩) l.length scap) k):=fun k hk=>⟨by have:=HB2.out.size;omega,fun e=>absurd (show g=k by simpa[Value.ownBlock] using e) (by have:=HB1.out.size;omega)⟩
    gi_wp2_with (gi_at_builtin;refine Z7 (ROut w (.slice (some ⟨g,0,none⟩) l.length scap)) 45 _ 5 88 info_eflaw rfl (by decide) rfl _ _ _ Tryz.underlying29 rfl _ 0 [] (by rfl) RO2.out _ [[.int .i64 x.1.2.kind,.slice p0 n0 q0,.slice p1 n1 q1,.slice p2 n2 q2,.int .i64 x.1.2.server]] (by rfl) (GRd.new [.int .i64 x.1.2.kind,.slice p0 n0 q0,.slice p1 n1 q1,.slice p2 n2 q2,.int .i64 x.1.2.server] rfl (by simp[Value.oneCell']) _ _) (by simp) (by omega) (HRR.out _ (by simp)) ?_;intro v' wz hrow hgr)
    have hbz:=(HB2.out.alloc HB2.out.size _).grown hgr (by have:=HB2.out.size;simp;omega) (fun k hk=>(RO.out.2 k hk).1)
    have hrz:=rs_kept5 RS.out (HB1.out.alloc HB1.out.size _) hgr (fun k hk=>RO.out.2 k hk)
    have hrow':Row (ROut w (.slice (some ⟨g,0,none⟩) l.length scap)) 45 5 v' [x].length ([x].flatMap encG) wz:=by
     have h:=hrow;simpa[HX.out.2] using h
    have HE:=Hd (And.intro hbz (And.intro hrz hrow'));clear hbz hrz hrow hrow' hgr;gi_wp2_with fail
    refine⟨⟨i+1,[x],by go_num,?_,HE.out.2.2,HE.out.2.1,HE.out.1⟩,by simp[intOf];omega⟩
    obtain⟨h1,h2,h3,h4⟩:=HI.out;refine⟨by omega,by simp,by rw[HNX.out,List.foldl_append,<-h3];rfl,fun z hz=>?_⟩
    rw[List.mem_singleton] at hz;subst hz;exact List.mem_of_getElem? HX.out.1
   ·rw[List.concat_eq_append] at HI RO ⊢
    obtain⟨r0,k0,t0,r1,k1,t1,r2,k2,t2,ey⟩:=y.cells;obtain⟨m1,hm1⟩:∃m1,m1=(o++[y]).length:=⟨_,rfl⟩;obtain⟨go,hgo⟩:∃go,oa=some ⟨go,0,none⟩:=by
     obtain⟨⟨_,ho⟩,_⟩:=RO.out;rcases ho with⟨h0,h1⟩|⟨g,cap,cur,h0,_⟩
     ·simp at h1
     ·cases h0;exact⟨g,rfl⟩
    subst hgo;obtain⟨f0,f1,f2,f3,f4⟩:=Row.elG RO.out o.length (by simp) (by rw[Zs (Zh _)];simpa using ey)
    obtain⟨m,hm⟩:∃m,m=o.length:=⟨_,rfl⟩;rw[<-hm] at f0 f1 f2 f3 f4;have hmm:m1=m+1:=by rw[hm1,hm];simp
    have HM:=Hd (And.intro hm (And.intro hm1 (And.intro hmm ey)));have hz1:(m1:Int)<=50000:=by have h1:=HI.out;rw[<-hm1] at h1;omega
    have w7:IntKind.i64.wrap ((m1:Int)-1)=(m:Int):=by rw[IntWalk.i64_in _ (by omega)];omega
    have hp1:(0:Int)<(m1:Int):=by omega
    have hp2:decide (0<m1)=true:=zM (by omega)
    have hp3:(m:Int)<(m1:Int):=by omega
    have hgol:go<wr.heap.size:=(RO.out.1.lt go rfl).2;rw[<-hm1];clear hm hm1 hmm ey;gi_wp2_with fail
    refine Z8 [8,9,11,12] (fun w'=>BxE wr.heap.size (.int .i64 x.1.2.kind) (.slice p0 n0 q0) (.slice p1 n1 q1) (.slice p2 n2 q2) (.int .i64 x.1.2.server) w'/\w'.cell? ⟨go,m*5,none⟩=some (.int .i64 y.1.2.kind)/\w'.cell? ⟨go,m*5+1,none⟩=some (.slice r0 k0 t0)/\w'.cell? ⟨go,m*5+2,none⟩=some (.slice r1 k1 t1)/\w'.cell? ⟨go,m*5+3,none⟩=some (.slice r2 k2 t2)/\w'.cell? ⟨go,m*5+4,none⟩=some (.int .i64 y.1.2.server)) 13 rfl (by kernel_rfl) ?_
    intro w' hw';have hb1:Below wr.heap.size wr w':=by subst hw';exact (Zr).drew
    have hy:∀c,w'.cell? ⟨go,c,none⟩=wr.cell? ⟨go,c,none⟩:=fun c=>hb1.cell (p:=⟨go,c,none⟩) hgol
    have hS:BxE wr.heap.size (.int .i64 x.1.2.kind) (.slice p0 n0 q0) (.slice p1 n1 q1) (.slice p2 n2 q2) (.int .i64 x.1.2.server) w'/\w'.cell? ⟨go,m*5,none⟩=some (.int .i64 y.1.2.kind)/\w'.cell? ⟨go,m*5+1,none⟩=some (.slice r0 k0 t0)/\w'.cell? ⟨go,m*5+2,none⟩=some (.slice r1 k1 t1)/\w'.cell? ⟨go,m*5+3,none⟩=some (.slice r2 k2 t2)/\w'.cell? ⟨go,m*5+4,none⟩=some (.int .i64 y.1.2.server):=by
     refine⟨by subst hw';exact BxE.of (World.alloc_heap_new wr _),?_⟩
     simp only[hy];exact⟨f0,f1,f2,f3,f4⟩
    clear hw' hy f0 f1 f2 f3 f4 e0 e1 e2 e3 e4;have hb2:=Z5 HB.out hb1;refine tB 0 ?_;refine tB 1 ?_;refine tB 2 ?_;refine tB 3 ?_;refine tB 4 ?_;refine tB 5 ?_;refine tB 6 ?_;refine tB 7 ?_;simp only[Act.put,Za,Zd,Zc];refine tH 8 ?qav8 hS (fun w1 ⟨⟨c0,c1,c2,c3,c4⟩,d0,d1,d2,d3,d4⟩=>?qay8) ?_
    case qay8=>go_simp;try rfl
    refine tH 9 ?qav9 hS (fun w1 ⟨⟨c0,c1,c2,c3,c4⟩,d0,d1,d2,d3,d4⟩=>?qay9) ?_
    case qay9=>go_simp;try rfl
    simp only[Act.put,Za,Zd,Zc];obtain⟨z,hz⟩:=Zq (Eg.cmp y.1.2 x.1.2);have HZ:=Hd hz;have HRX:Hid (EgRd [.int .i64 x.1.2.kind,.slice p0 n0 q0,.slice p1 n1 q1,.slice p2 n2 q2,.int .i64 x.1.2.server] x.1.2 w):=by have h:=x.2.1;rw[show x.1.1=_ from HX.out.2] at h;exact h
    have HRY:Hid (EgRd [.int .i64 y.1.2.kind,.slice r0 k0 t0,.slice r1 k1 t1,.slice r2 k2 t2,.int .i64 y.1.2.server] y.1.2 w):=by have h:=y.2.1;rw[show y.1.1=_ from HM.out.2.2.2] at h;exact h
    clear hz;refine oneH 10 (by rfl) (by kernel_rfl) (fun K hK=>?_)
    gi_wp2_with (gi_at_call 11;refine (callsIn_wide.2 (egCompare_any [.int .i64 y.1.2.kind,.slice r0 k0 t0,.slice r1 k1 t1,.slice r2 k2 t2,.int .i64 y.1.2.server] [.int .i64 x.1.2.kind,.slice p0 n0 q0,.slice p1 n1 q1,.slice p2 n2 q2,.int .i64 x.1.2.server] y.1.2 x.1.2 _ (HRY.out.below hb2) (HRX.out.below hb2) y.2.2 x.2.2)).mono ?_;rintro e w3 ⟨rfl,b3⟩;rw[HZ.out])
    have hy3:∀c,w3.cell? ⟨go,c,none⟩=w'.cell? ⟨go,c,none⟩:=fun c=>b3.cell (p:=⟨go,c,none⟩) (by have:=hb1.size;show go<_;omega)
    replace hS:=And.intro (hS.1.below b3) hS.2;simp only[<-hy3] at hS;have hb3:=Z5 hb2 b3;have hbr:=Z5 hb1 b3;clear hy3 hb1 hb2 b3;refine hK _ _ (fun _=>hS) ?_
    clear hK K;have HB3:=Hd hb3;have HBR:=Hd hbr;have RO3:Hid (Row (ROut w (.slice (some ⟨g,0,none⟩) l.length scap)) 45 5 (.slice (some ⟨go,0,none⟩) m1 ocap) m1 ((o++[y]).flatMap encG) w3):=by
     have h:=Row.below RO.out HBR.out;rw[<-HM.out.2.1] at h;exact h
    have HRR:Hid (∀k,w3.heap.size<=k->ROut w (.slice (some ⟨g,0,none⟩) l.length scap) k):=fun k hk=>⟨by have:=HB3.out.size;omega,fun e=>absurd (show g=k by simpa[Value.ownBlock] using e) (by have:=HBR.out.size;omega)⟩
    clear hb3 hbr;by_cases h0:z=0
    ·subst h0
     refine tH 11 ?qev11 hS (fun w1 ⟨⟨c0,c1,c2,c3,c4⟩,d0,d1,d2,d3,d4⟩=>?qey11) ?_
     case qey11=>go_simp;try rfl
     refine tH 12 ?qev12 hS (fun w1 ⟨⟨c0,c1,c2,c3,c4⟩,d0,d1,d2,d3,d4⟩=>?qey12) ?_
     case qey12=>go_simp;try rfl
     simp only[Act.put,Za,Zd,Zc];refine Z9 (by kernel_rfl) ?_
     gi_wp2_with fail
     refine Z8 [8,9] (fun w'=>BxE wr.heap.size (.int .i64 x.1.2.kind) (.slice p0 n0 q0) (.slice p1 n1 q1) (.slice p2 n2 q2) (.int .i64 x.1.2.server) w'/\w'.cell? ⟨go,m*5,none⟩=some (.int .i64 y.1.2.kind)/\w'.cell? ⟨go,m*5+1,none⟩=some (.slice r0 k0 t0)/\w'.cell? ⟨go,m*5+2,none⟩=some (.slice r1 k1 t1)/\w'.cell? ⟨go,m*5+3,none⟩=some (.slice r2 k2 t2)/\w'.cell? ⟨go,m*5+4,none⟩=some (.int .i64 y.1.2.server)) 13 rfl (by kernel_rfl) ?_
     intro w4 hw4;replace hS:BxE wr.heap.size (.int .i64 x.1.2.kind) (.slice p0 n0 q0) (.slice p1 n1 q1) (.slice p2 n2 q2) (.int .i64 x.1.2.server) w4/\w4.cell? ⟨go,m*5,none⟩=some (.int .i64 y.1.2.kind)/\w4.cell? ⟨go,m*5+1,none⟩=some (.slice r0 k0 t0)/\w4.cell? ⟨go,m*5+2,none⟩=some (.slice r1 k1 t1)/\w4.cell? ⟨go,m*5+3,none⟩=some (.slice r2 k2 t2)/\w4.cell? ⟨go,m*5+4,none⟩=some (.int .i64 y.1.2.server):=by subst hw4;exact hS
     have hb4:Below w3.heap.size w3 w4:=by subst hw4;exact (Below.refl _ _).drew
     clear hw4;refine tB 0 ?_;refine tB 1 ?_;refine tB 2 ?_;refine tB 3 ?_;refine tB 4 ?_;refine tB 5 ?_;refine tB 6 ?_;refine tB 7 ?_;simp only[Act.put,Za,Zd,Zc];refine tH 8 ?qcv8 hS (fun w1 ⟨⟨c0,c1,c2,c3,c4⟩,d0,d1,d2,d3,d4⟩=>?qcy8) ?_
     case qcy8=>go_simp;try rfl
     refine tH 9 ?qcv9 hS (fun w1 ⟨⟨c0,c1,c2,c3,c4⟩,d0,d1,d2,d3,d4⟩=>?qcy9) ?_
     case qcy9=>go_simp;try rfl
     simp only[Act.put,Za,Zd,Zc];refine oneH 10 (by rfl) (by kernel_rfl) (fun K hK=>?_)
     gi_wp2_with (gi_at_call 57;refine (callsIn_wide.2 (fewCbG_any _ _ _ _ _ _ _ _ _ _ _ _ _ _ _ _ _ _ _ _ _ _ _)).mono ?_;rintro e w5 ⟨rfl,b5⟩)
     refine hK _ _ (fun h=>absurd h (by decide)) ?_
     clear hK K;have hb5:=Z5 hb4 b5;have RO5:Hid (Row (ROut w (.slice (some ⟨g,0,none⟩) l.length scap)) 45 5 (.slice (some ⟨go,0,none⟩) m1 ocap) m1 ((o++[y]).flatMap encG) w5):=Row.below RO3.out hb5;have HB5:=Hd (Z5 HB3.out hb5);have HBR5:=Hd (Z5 HBR.out hb5);obtain⟨g0,g1,g2,g3,g4⟩:=hS.2;have hy5:∀c,w5.cell? ⟨go,c,none⟩=w4.cell? ⟨go,c,none⟩:=fun c=>b5.cell (p:=⟨go,c,none⟩) (by have:=HBR.out.size;have:=hb4.size;show go<_;omega)
     simp only[<-hy5] at g0 g1 g2 g3 g4;have hfz:∀c,w5.frozen? ⟨go,c,none⟩=false:=by
      obtain⟨⟨_,ho⟩,_⟩:=RO5.out;rcases ho with⟨h0,_⟩|⟨g',cap',cur,h0,_,hg,_⟩
      ·cases h0
      ·cases h0;intro c;simp[World.frozen?,hg]
     have u0:=hfz (m*5);have u1:=hfz (m*5+1);have u2:=hfz (m*5+2);have u3:=hfz (m*5+3);have u4:=hfz (m*5+4);clear hy5 hS hb4 b5 hb5 hfz;refine tB 11 ?_;refine oneH 12 (by rfl) (by kernel_rfl) (fun K hK=>?_)
     gi_wp2_with fail
     have hgo:w.heap.size<=go/\g≠go:=by
      have h:=RO.out.2 go rfl;exact⟨h.1,fun e=>h.2 (by rw[e];rfl)⟩
     have hfl:(o++[y]).flatMap encG=o.flatMap encG++[.int .i64 y.1.2.kind,.slice r0 k0 t0,.slice r1 k1 t1,.slice r2 k2 t2,.int .i64 y.1.2.server]:=by
      rw[List.flatMap_append,List.flatMap_cons,List.flatMap_nil,List.append_nil,HM.out.2.2.2]
     have hfn:(o.flatMap (encG (w:=w))).length=m*5:=by rw[flat_len encG 5 encG_len,<-HM.out.1]
     have hro:=RO5.out;rw[hfl] at hro;have hro3:=((((hro.set1 (m*5) (.int .i64 y.1.2.kind)).set1 (m*5+1) (.slice r0 k0 t0)).set1 (m*5+2) (.slice r1 k1 t1)).set1 (m*5+3) (.slice r2 k2 t2)).set1 (m*5+4) (.int .i64 y.1.2.server);rw[set5 _ _ hfn,<-hfl] at hro3;have hrs3:Row (Own w) 45 5 (.slice (some ⟨g,0,none⟩) l.length scap) l.length (s.flatMap encG) (((((w5.setCell ⟨go,m*5,none⟩ (.int .i64 y.1.2.kind)).setCell ⟨go,m*5+1,none⟩ (.slice r0 k0 t0)).setCell ⟨go,m*5+2,none⟩ (.slice r1 k1 t1)).setCell ⟨go,m*5+3,none⟩ (.slice r2 k2 t2)).setCell ⟨go,m*5+4,none⟩ (.int .i64 y.1.2.server)):=rs_set3 (rs_set3 (rs_set3 (rs_set3 (rs_set3 (Row.below RS.out HBR5.out) hgo.2) hgo.2) hgo.2) hgo.2) hgo.2;have hb3:Below w.heap.size w (((((w5.setCell ⟨go,m*5,none⟩ (.int .i64 y.1.2.kind)).setCell ⟨go,m*5+1,none⟩ (.slice r0 k0 t0)).setCell ⟨go,m*5+2,none⟩ (.slice r1 k1 t1)).setCell ⟨go,m*5+3,none⟩ (.slice r2 k2 t2)).setCell ⟨go,m*5+4,none⟩ (.int .i64 y.1.2.server)):=((((HB5.out.setCell hgo.1 _).setCell hgo.1 _).setCell hgo.1 _).setCell hgo.1 _).setCell hgo.1 _;have HE:=Hd (And.intro hb3 (And.intro hrs3 hro3));clear hro hro3 hrs3 hb3 hfl hfn;generalize ((((w5.setCell ⟨go,m*5,none⟩ (.int .i64 y.1.2.kind)).setCell ⟨go,m*5+1,none⟩ (.slice r0 k0 t0)).setCell ⟨go,m*5+2,none⟩ (.slice r1 k1 t1)).setCell ⟨go,m*5+3,none⟩ (.slice r2 k2 t2)).setCell ⟨go,m*5+4,none⟩ (.int .i64 y.1.2.server)=wz at HE ⊢
     refine hK _ _ (fun h=>absurd h (by decide)) ?_
     clear hK K g0 g1 g2 g3 g4 u0 u1 u2 u3 u4;refine Z9 (by kernel_rfl) ?_
     gi_wp2_with fail
     refine⟨⟨i+1,o++[y],by go_num,?_,by rw[<-HM.out.2.1];exact HE.out.2.2,HE.out.2.1,HE.out.1⟩,by simp[intOf];omega⟩
     obtain⟨h1,h2,h3,h4⟩:=HI.out;refine⟨by omega,by omega,?_,h4⟩
     rw[HNX.out,List.foldl_append,<-h3,plG_snoc o y];exact (Eg.addF_join _ _ _ HZ.out).symm
    ·have hz1:(z == 0)=false:=by simpa using h0
     have HNZ:=Hd h0;clear h0;refine tH 11 ?qbv11 hS (fun w1 ⟨⟨c0,c1,c2,c3,c4⟩,d0,d1,d2,d3,d4⟩=>?qby11) ?_
     case qby11=>go_simp;try rfl
     refine tH 12 ?qbv12 hS (fun w1 ⟨⟨c0,c1,c2,c3,c4⟩,d0,d1,d2,d3,d4⟩=>?qby12) ?_
     case qby12=>go_simp;try rfl
     simp only[Act.put,Za,Zd,Zc];refine Z9 (by kernel_rfl) ?_
     obtain⟨⟨c0,c1,c2,c3,c4⟩,_⟩:=hS;gi_wp2_with (gi_at_builtin;refine Z7 (ROut w (.slice (some ⟨g,0,none⟩) l.length scap)) 45 _ 5 88 info_eflaw rfl (by decide) rfl _ _ _ Tryz.underlying29 rfl _ m1 ((o++[y]).map encG) (by rfl) (RO3.out.alloc _) _ [[.int .i64 x.1.2.kind,.slice p0 n0 q0,.slice p1 n1 q1,.slice p2 n2 q2,.int .i64 x.1.2.server]] (by rfl) (GRd.new [.int .i64 x.1.2.kind,.slice p0 n0 q0,.slice p1 n1 q1,.slice p2 n2 q2,.int .i64 x.1.2.server] rfl (by simp[Value.oneCell']) _ _) (by have h1:=HI.out;have h2:=HM.out;simp only[Ze,Zg];omega) (by omega) (HRR.out _ (by simp)) ?_;intro v' wz hrow hgr)
     have hbz:=(HB3.out.alloc HB3.out.size _).grown hgr (by have:=HB3.out.size;simp;omega) (fun k hk=>(RO.out.2 k hk).1)
     have hrz:=rs_kept5 RS.out (HBR.out.alloc HBR.out.size _) hgr (fun k hk=>RO.out.2 k hk)
     have hrow':Row (ROut w (.slice (some ⟨g,0,none⟩) l.length scap)) 45 5 v' ((o++[y])++[x]).length (((o++[y])++[x]).flatMap encG) wz:=by
      have h:=hrow;rw[HM.out.2.1] at h;simpa[List.flatMap_def,HX.out.2] using h
     have HE:=Hd (And.intro hbz (And.intro hrz hrow'));clear hbz hrz hrow hrow' hgr;gi_wp2_with fail
     refine⟨⟨i+1,(o++[y])++[x],by go_num,?_,HE.out.2.2,HE.out.2.1,HE.out.1⟩,by simp[intOf];omega⟩
     obtain⟨h1,h2,h3,h4⟩:=HI.out;refine⟨by omega,by rw[Zb];simp only[Ze,Zg];omega,?_,fun z hz=>(List.mem_append.1 hz).elim (fun hz=>h4 z hz) (fun hz=>by rw[List.mem_singleton] at hz;subst hz;exact List.mem_of_getElem? HX.out.1)⟩
     rw[HNX.out,List.foldl_append,<-h3,plG_snoc (o++[y]) x,plG_snoc o y];exact (Eg.addF_more _ _ _ (by rw[HZ.out];exact HNZ.out)).symm
  ·have hltz:¬((i:Int)<(l.length:Int)):=by omega
   have HF:Hid (plG os=Eg.few (plG s)/\os.length<=l.length/\∀x∈os,x∈l):=by
    obtain⟨h1,h2,h3,h4⟩:=HI.out;have:i=s.length:=by have:=HSL.out;omega
    refine⟨?_,by omega,fun x hx=>HMEM.out x (h4 x hx)⟩
    rw[h3,this,List.take_length,Eg.few_foldl]
   have RO:=Hd (rowG_grd ro);have HB:=Hd hb;have ho:os.length<=50000:=by have:=HI.out;omega
   clear ro rs hb hlt;gi_wp2_with (gi_at_call 28;refine (callsIn_wide.2 (clipEg_any _ _ _ RO.out (by omega))).mono ?_;rintro e w3 ⟨vc,rfl,rc,rfl⟩)
   go_ret
   exact⟨_,os,rfl,rc,by rw[HS.out];exact HF.out.1,HF.out.2.1,HF.out.2.2,HB.out⟩
set_option maxHeartbeats 1000000 in
theorem egFewX_any {w:World} (v:Value) (l:List (ElG w)) (hv:GRd 5 v (l.map encG) w) (hn:l.length<=50000) :
  Calls Tryz.prog 29 #[v,.func (.func 11) #[] #[]] w (FewG l w):=by
 have HC:=Hd (egFew_any v l hv hn);clear hv;refine (zF (n:=0)).1 ?_;refine callsIn_of_wp Tryz.func29 rfl trivial ?_ rfl;simp only[Tryz.ntmps29,Zo,Ze,Zg,Nat.reduceAdd,Nat.reduceSub,Zi,Zj,Zk,Zl,Zm,Zp];gi_wp2_with fail
 refine (callsIn_wide.2 HC.out).mono ?_;rintro e w1 ⟨v',l',rfl,h1,h2,h3,h4,h5⟩;have HH:=Hd (And.intro h1 (And.intro h2 (And.intro h3 (And.intro h4 h5))));clear h1 h2 h3 h4 h5;gi_wp2_with fail
 go_ret
 exact⟨_,l',rfl,HH.out.1,HH.out.2.1,HH.out.2.2.1,HH.out.2.2.2.1,HH.out.2.2.2.2⟩
end
end Go.Proofs.YtgmbefolgppmdaaGreat
