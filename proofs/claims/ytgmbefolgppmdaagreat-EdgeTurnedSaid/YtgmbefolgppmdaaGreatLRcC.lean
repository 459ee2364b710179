/- Records: rows of them in memory; a row copied, clipped, sorted. -/
import Derived.Test.YtgmbefolgppmdaaGreatLRcA
import Derived.Test.YtgmbefolgppmdaaGreatLSrtFb
import Derived.Test.YtgmbefolgppmdaaGreatLAli
namespace Go.Proofs.YtgmbefolgppmdaaGreat
open Go.RowKit Go.Shelf Go.Sort
set_option maxRecDepth 100000
section
abbrev RP:=List Value × Rc.PRec
def encP (l:List RP):List Value:=l.flatMap (·.1)
theorem RecRd.len {vs r} {W:World} (h:RecRd vs r W):vs.length=7:=by
 obtain⟨vo,ds,rfl,_,vn,vm,vt,vr,rfl,_⟩:=h;rfl
theorem Rd.one {v l} {W:World} (h:Rd v l W):v.oneCell'=true:=by obtain⟨o,cap,rfl,_⟩:=h;rfl
theorem Sl.one {v l} {W:World} (h:Sl v l W):v.oneCell'=true:=by obtain⟨o,cap,rfl,_⟩:=h;rfl
theorem RecRd.one {vs r} {W:World} (h:RecRd vs r W):∀v∈vs,v.oneCell'=true:=by
 obtain⟨vo,ds,rfl,h0,vn,vm,vt,vr,rfl,⟨us,_,h1,_⟩,h2,h3,h4⟩:=h;intro v hv;simp only[List.mem_cons,List.not_mem_nil,or_false] at hv;rcases hv with rfl|rfl|rfl|rfl|rfl|rfl|rfl
 ·exact h0.one
 ·rfl
 ·rfl
 ·exact h1.one
 ·exact h2.one
 ·exact h3.one
 ·exact Sl.one h4
theorem encP_len:∀{l:List RP},(∀x∈l,x.1.length=7)->(encP l).length=l.length*7
 | [],_=>rfl
 | x::l,h=>by
  have h1:=h x Zu;have h2:=encP_len (l:=l) (fun y hy=>h y (Zv _ hy))
  simp only[encP,List.flatMap_cons,Zb,Ze] at *;omega
theorem encP_get:∀{l:List RP},(∀x∈l,x.1.length=7)->∀(i c:Nat) (hi:i<l.length) (_hc:c<7),(encP l)[i*7+c]? = (l[i].1)[c]?
 | x::l,h,0,c,hi,hc=>by
  have h1:=h x Zu;simp only[encP,List.flatMap_cons,Nat.zero_mul,Nat.zero_add,List.getElem_cons_zero];rw[List.getElem?_append_left (by omega)]
 | x::l,h,i+1,c,hi,hc=>by
  have h1:=h x Zu;have ih:=encP_get (l:=l) (fun y hy=>h y (Zv _ hy)) i c (by simpa using hi) hc
  simp only[encP,List.flatMap_cons,List.getElem_cons_succ] at *;rw[List.getElem?_append_right (by omega),h1,show (i+1)*7+c-7=i*7+c by omega]
  exact ih
def RecsRd (v:Value) (l:List RP) (W:World):Prop :=
 (∀x∈l,RecRd x.1 x.2 W)/\∃o cap,v=.slice o l.length cap/\l.length<=cap/\cap<=maxLen/\(o=none->cap=0)/\∀j (h:j<(encP l).length),∃a,o=some a/\W.cell? (a.add j)=some (encP l)[j]
theorem RecsRd.kept {v l} {W W':World} (h:RecsRd v l W) (hb:Below W.heap.size W W'):RecsRd v l W':=by
 obtain⟨h0,o,cap,h1,h2,h3,h4,h5⟩:=h;refine⟨fun x hx=>(h0 x hx).below hb,o,cap,h1,h2,h3,h4,fun j hj=>?_⟩
 obtain⟨a,ha,hc⟩:=h5 j hj;exact⟨a,ha,(hb.cell (zG hc)).trans hc⟩
theorem RecsRd.enc {v l} {W:World} (h:RecsRd v l W):(encP l).length=l.length*7:=encP_len fun x hx=>(h.1 x hx).len
theorem encP_one {l:List RP} {W:World} (h:∀x∈l,RecRd x.1 x.2 W):∀u∈encP l,u.oneCell'=true:=by
 intro u hu;obtain⟨x,hx,hux⟩:=List.mem_flatMap.1 hu;exact (h x hx).one u hux
theorem info_rec:(Tryz.prog.info? 110).map (fun i=>(i.zero,i.size,i.bytes))=some (some (.agg #[.slice none 0 0,.int .u32 0,.int .i64 0,.slice none 0 0,.slice none 0 0,.slice none 0 0,.slice none 0 0]),7,136):=by kernel_rfl
section
variable {F:Fence} {n:Nat}
theorem append_recs (R:Nat->Prop) {ops:Array Oper} {rest:List Oper} {o:Oper} {a:Act} {w:World} {Q:Exit->Act->World->Prop}
  (hg:o.guard=none) (s x:Operand) (t:TypeId) (ht:Tryz.prog.underlying t=some (.slice 110)) (hop:o.op=Op.call { callee:=Callee.builtin Builtin.append,args:=#[s,x],argTypes:=#[t,t] })
  (v:Value) (k:Nat) (xs:List Value) (hs:a.eval s=v) (hrow:Row R 110 7 v k xs w) (u:Value) (l:List RP) (hx:a.eval x=u) (hu:RecsRd u l w) (hb:k+l.length<=100000) (hR:R w.heap.size)
  (hK:∀v' w',Row R 110 7 v' (k+l.length) (xs++encP l) w'->w.grownBy w' v.ownBlock->wpListIn F n Tryz.prog ops Q rest (a.put o.dst v') w') :
  wpListIn F n Tryz.prog ops Q (o::rest) a w:=by
 obtain⟨i0,hi,hz0,hz1,hz2⟩:=info_parts info_rec;have hen:=hu.enc;have hon:=encP_one hu.1;obtain⟨_,oa,cap,rfl,h1,h2,h3,h4⟩:=hu;cases oa with
 | none =>
  obtain rfl:cap=0:=h3 rfl;have hl:l=[]:=List.length_eq_zero_iff.1 (by omega)
  subst hl;refine wpListIn_plain hg fun K hK'=>?_
  have hrun:=run_append_owned_none (P:=Tryz.prog) (w:=w) 0 t o.type 110 i0 7 ht hi v k _ hrow.1;unfold Oper.wpIn;refine⟨?_,?_⟩
  ·simp[Oper.about,hop,resolve,Target.leads,Sem.run_pure]
  ·rw[Oper.semAt_plain F _ _ (by rw[hop];intro c hc';cases hc')]
   simp only[Zg] at hx;simp[execOp,hop,resolve,invoke,builtin,hs,hx,hrun,Result.andThen];exact hK' _ _ (hK _ _ (by simpa[encP] using hrow) ⟨rfl,rfl,rfl,Zh _,fun _ _ _=>rfl⟩)
 | some ad =>
  refine append_in R hg s x t hop 110 i0 _ 7 136 ht hi hz0 hz1 hz2 rfl (by decide) v k xs hs hrow ad l.length cap (encP l) hx hen (fun j u hj=>?_) hon (by unfold maxLen;omega) (by omega) hR (fun v' w' hr hgr _=>hK v' w' hr hgr)
  obtain⟨hjl,rfl⟩:=List.getElem?_eq_some_iff.1 hj;obtain⟨a',ha,hc⟩:=h4 j hjl;cases ha;exact hc
end
theorem eql_nil_recs (w:World) (o:Option Addr) (l c:Nat):(binOp .eql 52 (.slice o l c) (.slice none 0 0)).run Tryz.prog w=.ok (.bool o.isNone) w:=Lib.run_eql_slice_nil w _ _ o l c 0 0 Tryz.underlying52
attribute [local go_sem] eql_nil_recs
theorem row_emptyR (w:World):Row (Own w) 110 7 (.slice (some ⟨w.heap.size,0,none⟩) 0 0) 0 [] (w.alloc (.cells #[] 110)) :=
 ⟨World.ownsRow_lit w #[] 0 (Nat.zero_le _) (by unfold maxLen;omega) rfl,fun g hg=>by cases hg;exact Zh _⟩
set_option maxHeartbeats 1000000 in
theorem cloneRec_any (v:Value) (l:List RP) (w:World) (hv:RecsRd v l w) (hn:l.length<=10000) :
  Calls Tryz.prog 116 #[v] w fun e w'=>∃v',e=.returned v'/\Row (Own w) 110 7 v' l.length (encP l) w'/\Below w.heap.size w w':=by
 obtain⟨h0,o,cap,rfl,h1,h2,h3,h4⟩:=id hv;cases o with
 | none =>
  obtain rfl:cap=0:=h3 rfl;have hl:l=[]:=List.length_eq_zero_iff.1 (by omega)
  subst hl;clear hv h0 h4
  go_enter Tryz.func116,Tryz.ntmps116
  go_wp2_with fail
  go_ret
  exact⟨_,rfl,Row.nil _ _ _ _,Below.refl _ _⟩
 | some a =>
  have HV:=Hd hv;clear hv h0 h4 h3;refine (zF (n:=0)).1 ?_;refine callsIn_of_wp Tryz.func116 rfl trivial ?_ rfl;simp only[Tryz.ntmps116,Zo,Ze,Zg,Nat.reduceAdd,Nat.reduceSub,Zi,Zj,Zk,Zl,Zm,Zp];gi_wp2_with (gi_at_builtin;refine append_recs (Own w) rfl _ _ _ Tryz.underlying52 rfl _ 0 [] (by rfl) (row_emptyR w) _ l (by rfl) (HV.out.kept (Zr)) (by omega) (by simp) ?_;intro v' w' hrow hgr)
  simp only[Nat.zero_add,Zm] at hrow;go_ret
  exact⟨_,rfl,hrow,(Zr).grown hgr (by simp) (fun g hg=>by cases hg;exact Zh _)⟩
set_option maxHeartbeats 1000000 in
theorem clipRec_any (v:Value) (l:List RP) (w:World) (hv:RecsRd v l w) (hn:l.length<=10000) :
  Calls Tryz.prog 118 #[v] w fun e w'=>∃v',e=.returned v'/\RecsRd v' l w'/\w'=w/\v'.ownBlock=v.ownBlock:=by
 have n1:(l.length:Int)<=10000:=by omega
 obtain⟨h0,o,cap,rfl,h1,h2,h3,h4⟩:=id hv;unfold maxLen at h2;have HO:=Hd (show o=none->l.length=0 from fun h=>by have:=h3 h;omega)
 have H4:=Hd h4;have H0:=Hd h0;clear h3 h4 hv h0
 go_enter Tryz.func118,Tryz.ntmps118
 go_wp2_with fail
 go_ret
 exact⟨_,rfl,⟨H0.out,o,l.length,rfl,Zh _,by unfold maxLen;omega,HO.out,H4.out⟩,rfl,by cases o<;>rfl⟩
end
section
abbrev El (w:World):={ x:RP // RecRd x.1 x.2 w/\RB x.2 }
theorem Sl.nil (W:World):Sl (.slice none 0 0) [] W:=⟨none,0,rfl,by simp,by unfold maxLen;omega,fun _=>rfl,fun j h=>by simp at h⟩
theorem NB.nil':NB []:=⟨by simp,by simp⟩
instance (w:World):Inhabited (El w):=⟨⟨([.slice none 0 0,.int .u32 0,.int .i64 0,.slice none 0 0,.slice none 0 0,.slice none 0 0,.slice none 0 0],⟨[],0,0,[],[],[],[]⟩),
 ⟨_,_,rfl,Rd.nil w,_,_,_,_,rfl,⟨[],rfl,Sl.nil w,fun i h=>by simp at h⟩,Sl.nil w,Rd.nil w,Sl.nil w⟩,⟨NB.nil',⟨by simp,by simp⟩,⟨by simp,by simp⟩,by simp,by show (0:Nat)<4294967296;omega⟩⟩⟩
def encE {w:World} (x:El w):List Value:=x.1.1
def cfE {w:World} (x y:El w):Int:=Rc.cmp x.1.2 y.1.2
theorem cfE_ord (w:World):Srt.Ord (ltC (cfE (w:=w))):=(Rc.cmp_cm.pull (fun x:El w=>x.1.2)).ord
theorem encE_len {w:World} (x:El w):(encE x).length=7:=x.2.1.len
theorem below_row {w w0 W:World} {blk:Nat} (hb:Below w.heap.size w w0) (hblk:w.heap.size<=blk) (hg:w0.grownBy W (some blk)):Below w.heap.size w W :=
 ⟨hg.os.trans hb.os,hg.tape.trans hb.tape,hg.output.trans hb.output,Nat.le_trans hb.size hg.size,fun k hk=>(hg.block k (by have:=hb.size;omega) (fun e=>by cases e;omega)).trans (hb.block k hk)⟩
theorem cmpOk (w w0:World) (blk off n:Nat) (hb:Below w.heap.size w w0) (hblk:w.heap.size<=blk):CmpOk 94 (encE (w:=w)) 7 cfE w0 blk off n:=by
 intro W l hs hl x y;have hw:=below_row hb hblk hs.grown;exact recCompare_any _ _ _ _ _ (x.2.1.below hw) (y.2.1.below hw) x.2.2 y.2.2
theorem flat_len {α:Type} (enc:α->List Value) (k:Nat) (hk:∀x,(enc x).length=k):∀l:List α,(l.flatMap enc).length=l.length*k
 | []=>by simp
 | x::l=>by rw[List.flatMap_cons,Zb,hk,flat_len enc k hk l,Ze,Nat.add_mul];omega
theorem flat_get {α:Type} (enc:α->List Value) (k:Nat) (hk:∀x,(enc x).length=k):∀(l:List α) (i c:Nat) (hi:i<l.length) (_hc:c<k),(l.flatMap enc)[i*k+c]? = (enc l[i])[c]?
 | x::l,0,c,_,hc=>by
  simp only[List.flatMap_cons,Nat.zero_mul,Nat.zero_add,List.getElem_cons_zero];rw[List.getElem?_append_left (by rw[hk];exact hc)]
 | x::l,i+1,c,hi,hc=>by
  have ih:=flat_get enc k hk l i c (by simpa using hi) hc
  simp only[List.flatMap_cons,List.getElem_cons_succ] at *;rw[List.getElem?_append_right (by rw[hk,Nat.add_mul];omega),hk,show (i+1)*k+c-k=i*k+c by rw[Nat.add_mul];omega]
  exact ih
section
variable {α:Type} [Inhabited α] {enc:α->List Value}
theorem flatK_get (hk:∀x,(enc x).length=7) (l:List α) (j:Nat) (hj:j<l.length*7):(l.flatMap enc)[j]? = some (flatK enc 7 l.toArray)[j]!:=by
 rw[get_flatK _ _ _ _ (by simpa using hj)]
 have h1:j / 7<l.length:=by omega
 have h2:j % 7<7:=Nat.mod_lt _ (by omega)
 have h3:=flat_get enc 7 hk l (j / 7) (j % 7) h1 h2;rw[show j / 7*7+j % 7=j by omega] at h3
 rw[h3,get_list h1,getElem!_pos (enc l[j / 7]) (j % 7) (by rw[hk];exact h2),zN]
theorem holds_row (hk:∀x,(enc x).length=7) {g _cap:Nat} {cur:Array Value} {e:TypeId} {W:World} {l:List α} (hg:W.heap[g]? = some (.cells cur e (0,0))) (hc:cur.toList.take (l.length*7)=l.flatMap enc):HoldsK enc 7 W g 0 l.toArray:=by
 intro j hj;rw[size_flatK] at hj;have hj':j<l.length*7:=by simpa using hj
 refine⟨?_,by simp[World.frozen?,hg]⟩
 rw[Nat.zero_add,cell_of_row W g j _ _ _ hg];have:=congrArg (fun l=>l[j]?) hc
 simp only[List.getElem?_take,hj',if_true] at this;rw[flatK_get hk l j hj'] at this;simpa using this
theorem row_holds (hk:∀x,(enc x).length=7) {g:Nat} {cur:Array Value} {e:TypeId} {W:World} {l:List α} (hg:W.heap[g]? = some (.cells cur e (0,0))) (h:HoldsK enc 7 W g 0 l.toArray) (_hs:l.length*7<=cur.size):cur.toList.take (l.length*7)=l.flatMap enc:=by
 refine List.ext_getElem? fun j=>?_
 rw[List.getElem?_take];split
 ·rename_i hj
  have h1:=(h j (by rw[size_flatK];simpa using hj)).1
  rw[Nat.zero_add,cell_of_row W g j _ _ _ hg] at h1;rw[flatK_get hk l j hj];simpa using h1
 ·rename_i hj
  rw[List.getElem?_eq_none (by rw[flat_len enc 7 hk];omega)]
theorem SL.block {k:Nat} {w0 W:World} {g off:Nat} {l:List α} (h:SL enc k w0 g off l W) {cur:Array Value} {e:TypeId} {fz:Nat × Nat} (hg:w0.heap[g]? = some (.cells cur e fz)):∃cur',W.heap[g]? = some (.cells cur' e fz)/\cur'.size=cur.size:=by
 obtain⟨t,n,os,rfl⟩:=h;have hlt:=(Array.getElem?_eq_some_iff.1 hg).1;refine⟨putCells id off (flatK enc k l.toArray) cur,?_,?_⟩
 ·show (_++os:Array Obj)[g]? = _
  rw[Array.getElem?_append_left (by rw[size_putRowK];exact hlt)]
  show (Array.modify _ _ _)[g]? = _;rw[Array.getElem?_modify,if_pos rfl];show Option.map _ (w0.heap[g]?)=_;rw[hg];rfl
 ·simp[putCells]
end
theorem agg_rec (w:World):(isAgg 110).run Tryz.prog w=.ok true w:=by simp[go_sem]
theorem size_rec (w:World):(Go.sizeOf 110).run Tryz.prog w=.ok 7 w:=by simp[go_sem]
theorem eg_cmp (args:Array Value) (w:World):(callFunc 94 args).run Tryz.prog w=.ok (.enter 94 args) w:=by simp[go_sem]
set_option maxHeartbeats 1000000 in
theorem insertion_nil (vf:Value) (w:World):Calls Tryz.prog 137 #[.slice none 0 0,.int .i64 0,.int .i64 0,vf] w fun e w'=>e=.returned (.tuple #[])/\w'=w:=by
 go_enter Tryz.func137,Tryz.ntmps137
 go_wp2
 go_loopw [8] (fun vi wr=>vi=.int .i64 1/\wr=w) (fun _ _=>0)
 case atStart=>exact⟨rfl,rfl⟩
 case round =>
  obtain⟨rfl,rfl⟩:=hrel;go_wp2
  go_end0
  exact⟨rfl,rfl⟩
set_option maxHeartbeats 1000000 in
theorem stable_nil (vf:Value) (w:World):Calls Tryz.prog 130 #[.slice none 0 0,.int .i64 0,vf] w fun e w'=>e=.returned (.tuple #[])/\w'=w:=by
 go_enter Tryz.func130,Tryz.ntmps130
 go_wp2
 go_loopw [7,8] (fun va vb wr=>va=.int .i64 0/\vb=.int .i64 20/\wr=w) (fun _ _ _=>0)
 case atStart=>exact⟨rfl,rfl,rfl⟩
 case round =>
  obtain⟨rfl,rfl,rfl⟩:=hrel;go_wp2_with fail
  refine (insertion_nil _ _).mono ?_;rintro e w1 ⟨rfl,rfl⟩;go_wp2_with fail
  go_loopw [6] (fun vs wr=>vs=.int .i64 20/\wr=w1) (fun _ _=>0)
  case atStart=>exact⟨rfl,rfl⟩
  case round =>
   obtain⟨rfl,rfl⟩:=hrel;go_wp2
   go_end0
   exact⟨rfl,rfl⟩
set_option maxHeartbeats 1000000 in
theorem sortRecs_any {w w0:World} (v:Value) (l:List (El w)) (hrow:Row (Own w) 110 7 v l.length (l.flatMap encE) w0) (hb:Below w.heap.size w w0) (hn:l.length<=10000) :
  Calls Tryz.prog 117 #[v,.func (.func 94) #[] #[]] w0 fun e w'=>e=.returned (.tuple #[])/\Row (Own w) 110 7 v l.length ((Srt.srt (ltC cfE) l).flatMap encE) w'/\Below w.heap.size w w':=by
 obtain⟨⟨hl,ho⟩,hro⟩:=hrow;rcases ho with⟨rfl,h0⟩|⟨g,cap,cur,rfl,_,hg,h1,h2,h3,h4⟩
 ·have hl0:l=[]:=List.length_eq_zero_iff.1 h0
  subst hl0
  go_enter Tryz.func117,Tryz.ntmps117
  go_wp2_with fail
  refine (stable_nil _ _).mono ?_;rintro e w1 ⟨rfl,rfl⟩;go_wp2_with fail
  go_end0
  exact⟨rfl,Row.nil _ _ _ _,hb⟩
 ·have hgo:w.heap.size<=g:=hro g rfl
  have hgl:=(Array.getElem?_eq_some_iff.1 hg).1;have hH:=holds_row (enc:=encE (w:=w)) encE_len (_cap:=cap) hg h4;have hsg:SG (encE (w:=w)) 7 w0 g 0 l.length:=⟨encE_len,fun x=>x.2.1.one,⟨l.toArray,by simp,hH⟩,hgl⟩
  refine (sortStable_any hsg agg_rec size_rec (by omega) cap 94 eg_cmp cfE (cmpOk w w0 g 0 l.length hb hgo) (cfE_ord w) l rfl w0 (SL.start hsg hH)).mono ?_
  rintro e w' ⟨rfl,hs⟩;obtain⟨cur',hg',hsz⟩:=hs.block hg;have hsl:(Srt.srt (ltC cfE) l).length=l.length:=Srt.srt_len l;have hH':HoldsK (encE (w:=w)) 7 w' g 0 (Srt.srt (ltC cfE) l).toArray:=by
   obtain⟨t,h⟩:=hs;obtain⟨d0,e0,R⟩:=hsg.row t;exact h.holds R.hblk R.hH (by rw[e0];simp[hsl])
  refine⟨rfl,⟨⟨by rw[flat_len encE 7 encE_len,hsl],.inr ⟨g,cap,cur',rfl,by omega,hg',h1,h2,by rw[hsz];exact h3,?_⟩⟩,hro⟩,below_row hb hgo hs.grown⟩
  have:=row_holds (enc:=encE (w:=w)) encE_len hg' hH' (by rw[hsl,hsz,h3];exact Nat.mul_le_mul_right _ h1)
  rw[hsl] at this;exact this
end
section
def jC (va vb:List Value):List Value:=match va,vb with
 | vo::.int .u32 x::ds,_::.int .u32 y::_=>vo::.int .u32 (min x y)::ds
 | _,_=>va
theorem RecRd.join {va vb:List Value} {a b:Rc.PRec} {W:World} (ha:RecRd va a W) (hb:RecRd vb b W):RecRd (jC va vb) (Rc.join a b) W:=by
 obtain⟨vo,ds,rfl,h1,h2⟩:=ha;obtain⟨uo,es,rfl,_⟩:=hb;refine⟨vo,ds,?_,h1,h2⟩;show vo::Value.int .u32 (min (a.ttl:Int) b.ttl)::ds=vo::Value.int .u32 ((min a.ttl b.ttl:Nat):Int)::ds;rw[show min (a.ttl:Int) b.ttl=((min a.ttl b.ttl:Nat):Int) by omega]
theorem RB.join {a b:Rc.PRec} (h:RB a):RB (Rc.join a b):=⟨h.owner,h.names,h.nums,h.texts,by have:=h.ttl;show min a.ttl b.ttl<_;omega⟩
def joinE {w:World} (x y:El w):El w:=⟨(jC x.1.1 y.1.1,Rc.join x.1.2 y.1.2),x.2.1.join y.2.1,x.2.2.join⟩
set_option maxHeartbeats 2000000 in
theorem join_any (va vb:List Value) (a b:Rc.PRec) (W w:World) (ha:RecRd va a W) (hb:RecRd vb b W) :
  Calls Tryz.prog 95 #[.agg va.toArray,.agg vb.toArray] w (Gives (.agg (jC va vb).toArray) w):=by
 have mixed:Tryz.prog.follows .mixedOrders=true:=by kernel_rfl
 obtain⟨vo,ds,rfl,h1,an,am,at',ar,rfl,h2,h3,h4,h5⟩:=ha;obtain⟨uo,es,rfl,k1,bn,bm,bt,br,rfl,k2,k3,k4,k5⟩:=hb;obtain⟨p0,q0,rfl,_⟩:=h1;obtain⟨u1,_,⟨p1,q1,rfl,_⟩,_⟩:=h2;obtain⟨p2,q2,rfl,_⟩:=h3;obtain⟨p3,q3,rfl,_⟩:=h4;obtain⟨p4,q4,rfl,_⟩:=h5;obtain⟨la,hla⟩:∃l:Int,(a.ttl:Int)=l:=⟨_,rfl⟩;obtain⟨lb,hlb⟩:∃l:Int,(b.ttl:Int)=l:=⟨_,rfl⟩;rw[hla,hlb];generalize a.owner.length=n0
 generalize u1.length=n1
 generalize (numC a.nums).length=n2
 generalize a.texts.length=n3
 generalize (a.raw.map fun b:UInt8=>Value.int .u8 (b.toNat:Int)).length=n4
 clear hla hlb k1 k2 k3 k4 k5
 go_enter Tryz.func95,Tryz.ntmps95
 go_wp2_with fail
 refine bodyPost_ret (by simp[results,Tryz.results95,go_sem];try rfl) rfl ?_
 exact⟨rfl,((Zr).alloc (by simp) _).alloc (by simp;omega) _⟩
end
section
theorem Row.set1 {R:Nat->Prop} {e:TypeId} {sz n g cap:Nat} {xs:List Value} {W:World} (h:Row R e sz (.slice (some ⟨g,0,none⟩) n cap) n xs W) (j:Nat) (u:Value):Row R e sz (.slice (some ⟨g,0,none⟩) n cap) n (xs.set j u) (W.setCell ⟨g,j,none⟩ u):=by
 obtain⟨⟨hl,ho⟩,hr⟩:=h;rcases ho with⟨h0,_⟩|⟨g',cap',cur,h0,hb,hg,h1,h2,h3,h4⟩
 ·cases h0
 ·cases h0
  refine⟨⟨by simpa using hl,.inr ⟨g,cap,cur.setIfInBounds j u,rfl,hb,?_,h1,h2,by simpa using h3,?_⟩⟩,hr⟩
  ·simp[World.setCell,Array.getElem?_modify,hg]
  ·rw[Array.toList_setIfInBounds,List.take_set,h4]
theorem Row.cellAt {R:Nat->Prop} {e:TypeId} {sz n g cap:Nat} {xs:List Value} {W:World} (h:Row R e sz (.slice (some ⟨g,0,none⟩) n cap) n xs W) (j:Nat) (hj:j<n*sz):W.cell? ⟨g,j,none⟩=xs[j]?/\W.frozen? ⟨g,j,none⟩=false:=by
 obtain⟨⟨hl,ho⟩,hr⟩:=h;rcases ho with⟨h0,_⟩|⟨g',cap',cur,h0,hb,hg,h1,h2,h3,h4⟩
 ·cases h0
 ·cases h0
  refine⟨?_,by simp[World.frozen?,hg]⟩
  rw[cell_of_row W g j _ _ _ hg,<-h4,List.getElem?_take,if_pos hj];simp
theorem El.cells {w:World} (x:El w):∃p0 n0 q0 p1 n1 q1 p2 n2 q2 p3 n3 q3 p4 n4 q4,encE x=[.slice p0 n0 q0,.int .u32 (x.1.2.ttl:Int),.int .i64 x.1.2.type,.slice p1 n1 q1,.slice p2 n2 q2,.slice p3 n3 q3,.slice p4 n4 q4]:=by
 obtain⟨⟨vx,rx⟩,⟨vo,ds,h0,⟨p0,q0,rfl,_⟩,vn,vm,vt,vr,rfl,⟨us,_,⟨p1,q1,rfl,_⟩,_⟩,⟨p2,q2,rfl,_⟩,⟨p3,q3,rfl,_⟩,⟨p4,q4,rfl,_⟩⟩,hb⟩:=x;exact⟨_,_,_,_,_,_,_,_,_,_,_,_,_,_,_,h0⟩
theorem flat7 {w:World} (l:List (El w)) (i:Nat) (hi:i<l.length) (c:Nat) (hc:c<7):(l.flatMap encE)[i*7+c]? = (encE l[i])[c]?:=flat_get encE 7 encE_len l i c hi hc
theorem Row.el {w:World} {R:Nat->Prop} {e:TypeId} {g cap:Nat} {l:List (El w)} {W:World} (h:Row R e 7 (.slice (some ⟨g,0,none⟩) l.length cap) l.length (l.flatMap encE) W) (i:Nat) (hi:i<l.length) {c0 c1 c2 c3 c4 c5 c6:Value} (hx:encE l[i]=[c0,c1,c2,c3,c4,c5,c6]) :
  W.cell? ⟨g,i*7,none⟩=some c0/\W.cell? ⟨g,i*7+1,none⟩=some c1/\W.cell? ⟨g,i*7+2,none⟩=some c2/\W.cell? ⟨g,i*7+3,none⟩=some c3/\W.cell? ⟨g,i*7+4,none⟩=some c4/\W.cell? ⟨g,i*7+5,none⟩=some c5/\W.cell? ⟨g,i*7+6,none⟩=some c6:=by
 have hb:∀c,c<7->W.cell? ⟨g,i*7+c,none⟩=(encE l[i])[c]?:=fun c hc=>by rw[(h.cellAt (i*7+c) (by omega)).1,flat7 l i hi c hc]
 rw[hx] at hb;exact⟨hb 0 (by omega),hb 1 (by omega),hb 2 (by omega),hb 3 (by omega),hb 4 (by omega),hb 5 (by omega),hb 6 (by omega)⟩
def plE {w:World} (l:List (El w)):List Rc.PRec:=l.map fun x=>x.1.2
theorem addF_join (o:List Rc.PRec) (y x:Rc.PRec) (h:Rc.cmp y x=0):Rc.addF (o++[y]) x=o++[Rc.join y x]:=by simp[Rc.addF,h]
theorem addF_more (o:List Rc.PRec) (y x:Rc.PRec) (h:Rc.cmp y x≠0):Rc.addF (o++[y]) x=(o++[y])++[x]:=by simp[Rc.addF,h]
theorem recs_one {w W:World} (x:El w) (hb:Below w.heap.size w W) {cs:Array Value} (hc:encE x=cs.toList):RecsRd (.slice (some ⟨W.heap.size,0,none⟩) 1 1) [x.1] (W.alloc (.cells cs 110)):=by
 have hb':Below w.heap.size w (W.alloc (.cells cs 110)):=hb.alloc hb.size _;refine⟨fun y hy=>?_,_,_,rfl,Zh _,by unfold maxLen;omega,(fun h=>by cases h),fun j hj=>⟨_,rfl,?_⟩⟩
 ·rw[List.mem_singleton] at hy;subst hy;exact x.2.1.below hb'
 ·have hadd:(⟨W.heap.size,0,none⟩:Addr).add j=⟨W.heap.size,j,none⟩:=by unfold Addr.add;split<;>simp_all
  rw[hadd,cell_of_row (W.alloc (.cells cs 110)) W.heap.size j _ 110 (0,0) (World.alloc_heap_new W _)];have he:encP [x.1]=cs.toList:=by rw[<-hc];simp[encP,encE]
  simp only[he] at hj ⊢;simp
theorem canon_srt {w:World} (l:List (El w)):Rc.canon (plE l)=Rc.few (plE (Srt.srt (ltC cfE) l)):=by
 unfold Rc.canon plE;congr 1
 exact (Srt.srt_map (lt:=Rc.lt) (fun x:El w=>x.1.2) l).symm
theorem encP_map {w:World} (l:List (El w)):encP (l.map (·.1))=l.flatMap encE:=by simp[encP,List.flatMap_map];rfl
theorem Row.recs {w W:World} {R:Nat->Prop} {v:Value} {l:List (El w)} (h:Row R 110 7 v l.length (l.flatMap encE) W) (hb:Below w.heap.size w W):RecsRd v (l.map (·.1)) W:=by
 refine⟨fun x hx=>?_,?_⟩
 ·obtain⟨y,_,rfl⟩:=List.mem_map.1 hx
  exact y.2.1.below hb
 ·obtain⟨⟨hl,ho⟩,_⟩:=h
  rw[encP_map,Zf];rcases ho with⟨rfl,h0⟩|⟨g,cap,cur,rfl,_,hg,h1,h2,h3,h4⟩
  ·have:l=[]:=List.length_eq_zero_iff.1 h0
   subst this;exact⟨none,0,rfl,by simp,by unfold maxLen;omega,fun _=>rfl,fun j h=>by simp at h⟩
  ·refine⟨_,_,rfl,h1,h2,(fun h=>by cases h),fun j hj=>⟨_,rfl,?_⟩⟩
   have hadd:(⟨g,0,none⟩:Addr).add j=⟨g,j,none⟩:=by unfold Addr.add;split<;>simp_all
   rw[hadd,cell_of_row W g j _ _ _ hg];have:=congrArg (fun l=>l[j]?) h4
   have hj':=hj;rw[flat_len encE 7 encE_len] at hj';simp only[List.getElem?_take,hj',if_true] at this;rw[zN (l:=l.flatMap encE) hj] at this;simpa using this
end
end Go.Proofs.YtgmbefolgppmdaaGreat
