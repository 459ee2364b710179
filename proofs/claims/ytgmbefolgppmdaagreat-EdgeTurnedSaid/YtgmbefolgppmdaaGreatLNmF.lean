/- Names: a copy, an end cut off, one more ahead. -/
import Derived.Test.YtgmbefolgppmdaaGreatLLabG
import Derived.Lib.SliceRun
import Derived.Test.YtgmbefolgppmdaaGreatLAli
import Derived.Test.YtgmbefolgppmdaaGreatLReg
import Derived.Laws.MakeOwn
import Derived.SliceStrings
namespace Go.Proofs.YtgmbefolgppmdaaGreat
set_option maxRecDepth 100000
section
open Go.RowKit Go.Shelf
theorem Rd.of_row {R e v l W} (h:Row R e 1 v l.length (l.map S) W):Rd v l W:=Rd.of_strs h.strs
section
variable {F:Fence} {n:Nat}
theorem append_rd (R:Nat->Prop) {ops:Array Oper} {rest:List Oper} {o:Oper} {a:Act} {w:World} {Q:Exit->Act->World->Prop}
  (hg:o.guard=none) (s x:Operand) (t:TypeId) (ht:Tryz.prog.underlying t=some (.slice 9)) (hop:o.op=Op.call { callee:=Callee.builtin Builtin.append,args:=#[s,x],argTypes:=#[t,t] })
  (v:Value) (k:Nat) (xs:List (List UInt8)) (hs:a.eval s=v) (hrow:Row R 9 1 v k (xs.map S) w) (u:Value) (l:List (List UInt8)) (hx:a.eval x=u) (hu:Rd u l w) (hb:k+l.length<=100000) (hR:R w.heap.size)
  (hK:∀v' w',Row R 9 1 v' (k+l.length) ((xs++l).map S) w'->w.grownBy w' v.ownBlock->wpListIn F n Tryz.prog ops Q rest (a.put o.dst v') w') :
  wpListIn F n Tryz.prog ops Q (o::rest) a w:=by
 obtain⟨i0,hi,hz0,hz1,hz2⟩:=info_parts Tryz.info_str;obtain⟨oa,cap,rfl,h1,h2,h3,h4⟩:=hu;cases oa with
 | none =>
  obtain rfl:cap=0:=h3 rfl;have hl:l=[]:=List.length_eq_zero_iff.1 (by omega)
  subst hl;refine wpListIn_plain hg fun K hK'=>?_
  have hrun:=run_append_owned_none (P:=Tryz.prog) (w:=w) 0 t o.type 9 i0 1 ht hi v k _ hrow.1;unfold Oper.wpIn;refine⟨?_,?_⟩
  ·simp[Oper.about,hop,resolve,Target.leads,Sem.run_pure]
  ·rw[Oper.semAt_plain F _ _ (by rw[hop];intro c hc';cases hc')]
   simp only[Zg] at hx;simp[execOp,hop,resolve,invoke,builtin,hs,hx,hrun,Result.andThen];exact hK' _ _ (hK _ _ (by simpa using hrow) ⟨rfl,rfl,rfl,Zh _,fun _ _ _=>rfl⟩)
 | some ad =>
  refine append_in R hg s x t hop 9 i0 (.string ⟨#[]⟩) 1 16 ht hi hz0 hz1 hz2 rfl (by decide) v k (xs.map S) hs hrow ad l.length cap (l.map S) hx (by simp) (fun j u hj=>?_) (fun u hu=>?_) (by unfold maxLen;omega) (by omega) hR (fun v' w' hr hgr _=>hK v' w' (by rwa [List.map_append]) hgr)
  ·rw[List.getElem?_map] at hj
   obtain⟨y,hy,rfl⟩:=Option.map_eq_some_iff.1 hj;obtain⟨hjl,rfl⟩:=List.getElem?_eq_some_iff.1 hy;obtain⟨a',ha,hc⟩:=h4 j hjl;cases ha;exact hc
  ·obtain⟨y,_,rfl⟩:=List.mem_map.1 hu
   rfl
end
theorem eql_nil_name (w:World) (o:Option Addr) (l c:Nat):(binOp .eql 38 (.slice o l c) (.slice none 0 0)).run Tryz.prog w=.ok (.bool o.isNone) w:=Lib.run_eql_slice_nil w _ _ o l c 0 0 Tryz.underlying38
attribute [local go_sem] eql_nil_name
abbrev Own (w:World):Nat->Prop:=fun g=>w.heap.size<=g
theorem row_empty (w:World):Row (Own w) 9 1 (.slice (some ⟨w.heap.size,0,none⟩) 0 0) 0 [] (w.alloc (.cells #[] 9)) :=
 ⟨World.ownsRow_lit w #[] 0 (Nat.zero_le _) (by unfold maxLen;omega) rfl,fun g hg=>by cases hg;exact Zh _⟩
def RowOf (l:List (List UInt8)) (w:World) (e:Ending) (w':World):Prop:=∃v,e=.returned v/\Row (Own w) 9 1 v l.length (l.map S) w'/\Below w.heap.size w w'
def RdOf (l:List (List UInt8)) (w:World) (e:Ending) (w':World):Prop:=∃v,e=.returned v/\Rd v l w'/\Below w.heap.size w w'
set_option maxHeartbeats 1000000 in
theorem clone_any (v:Value) (n:List (List UInt8)) (w:World) (hv:Rd v n w) (hn:NB n) :
  Calls Tryz.prog 108 #[v] w (RowOf n w):=by
 have hn1:=hn.1;obtain⟨o,cap,rfl,h1,h2,h3,h4⟩:=id hv;cases o with
 | none =>
  obtain rfl:cap=0:=h3 rfl;have hl:n=[]:=List.length_eq_zero_iff.1 (by omega)
  subst hl
  go_enter Tryz.func108,Tryz.ntmps108
  go_wp2_with fail
  go_ret
  exact⟨_,rfl,Row.nil _ _ _ _,Below.refl _ _⟩
 | some a =>
  refine (zF (n:=0)).1 ?_;refine callsIn_of_wp Tryz.func108 rfl trivial ?_ rfl;simp only[Tryz.ntmps108,Zo,Ze,Zg,Nat.reduceAdd,Nat.reduceSub,Zi,Zj,Zk,Zl,Zm,Zp];gi_wp2_with (gi_at_builtin;refine append_rd (Own w) rfl _ _ _ Tryz.underlying38 rfl _ 0 [] (by rfl) (row_empty w) _ n (by rfl) (hv.kept fun p hp=>(World.cell?_of_block (Below.heap_alloc _ _ _ (by omega)))) (by omega) (by simp) ?_;intro v' w' hrow hgr)
  simp only[Nat.zero_add,Zm] at hrow;go_ret
  exact⟨_,rfl,hrow,(Zr).grown hgr (by simp) (fun g hg=>by cases hg;exact Zh _)⟩
set_option maxHeartbeats 1000000 in
theorem clip_any (v:Value) (n:List (List UInt8)) (w:World) (hv:Rd v n w) (hn:NB n) :
  Calls Tryz.prog 107 #[v] w fun e w'=>∃v',e=.returned v'/\Rd v' n w'/\w'=w:=by
 have hn1:=hn.1;have n1:(n.length:Int)<=1000:=by omega
 obtain⟨o,cap,rfl,h1,h2,h3,h4⟩:=id hv;unfold maxLen at h2;have HO:=Hd (show o=none->n.length=0 from fun h=>by have:=h3 h;omega)
 have H4:=Hd h4;clear h3 h4 hv
 go_enter Tryz.func107,Tryz.ntmps107
 go_wp2_with fail
 go_ret
 exact⟨_,rfl,⟨o,n.length,rfl,Zh _,by unfold maxLen;omega,HO.out,H4.out⟩,rfl⟩
theorem Row.rdOf {l w v w'} (h:Row (Own w) 9 1 v l.length (l.map S) w'):Rd v l w':=Rd.of_row h
theorem RowOf.mono {l w e w'} (h:RowOf l w e w'):RdOf l w e w':=by
 obtain⟨v,h1,h2,h3⟩:=h;exact⟨v,h1,h2.rdOf,h3⟩
end
section
open Go.RowKit Go.Shelf
structure Nm.CoAt (a b:List (List UInt8)) (k:Nat):Prop where
 le:k<=a.length
 eq:Nm.common a b=Nm.common (a.drop k) b
theorem Nm.CoAt.start (a b:List (List UInt8)):Nm.CoAt a b 0:=⟨by omega,rfl⟩
theorem Nm.CoAt.go {a b:List (List UInt8)} {k} (h:Nm.CoAt a b k) (hk:k<a.length) (hu:Nm.under b (a.drop k)=false):Nm.CoAt a b (k+1):=by
 refine⟨hk,?_⟩;rw[h.eq];rw[Zy hk] at hu ⊢;rw[Nm.common,if_neg (by rw[hu];decide)]
theorem Nm.CoAt.at {a b:List (List UInt8)} {k} (h:Nm.CoAt a b k) (hu:Nm.under b (a.drop k)=true):Nm.common a b=a.drop k:=by
 rw[h.eq];rcases hd:a.drop k with _|⟨x,r⟩
 ·rfl
 ·rw[hd] at hu;rw[Nm.common,if_pos hu]
theorem Nm.CoAt.end {a b:List (List UInt8)} {k} (h:Nm.CoAt a b k) (hk:¬k<a.length):Nm.common a b=a.drop k:=by
 rw[h.eq,Zz (by omega)];rfl
end
section
open Go.RowKit Go.Shelf
def Nm.sgn (x y:Int):Int:=if x<y then -1 else if y<x then 1 else 0
structure Nm.CmAt (a b:List (List UInt8)) (k:Nat):Prop where
 la:k<=a.length
 lb:k<=b.length
 eq:Nm.cmp a b=Nm.cmpR (a.reverse.drop k) (b.reverse.drop k)
theorem Nm.CmAt.start (a b:List (List UInt8)):Nm.CmAt a b 0:=⟨by omega,by omega,rfl⟩
theorem Nm.rev_drop (a:List (List UInt8)) (k:Nat) (h:k<a.length):a.reverse.drop k=(a[a.length-1-k]'(by omega))::a.reverse.drop (k+1):=by
 rw[Zy (by simpa using h),List.getElem_reverse]
theorem Nm.CmAt.go {a b:List (List UInt8)} {k} (h:Nm.CmAt a b k) (ha:k<a.length) (hb:k<b.length) (hz:cmpL (a[a.length-1-k]'(by omega)) (b[b.length-1-k]'(by omega))=0):Nm.CmAt a b (k+1):=by
 refine⟨ha,hb,?_⟩;rw[h.eq,Nm.rev_drop a k ha,Nm.rev_drop b k hb,Nm.cmpR,if_pos hz]
theorem Nm.CmAt.stop {a b:List (List UInt8)} {k} (h:Nm.CmAt a b k) (ha:k<a.length) (hb:k<b.length) (hz:cmpL (a[a.length-1-k]'(by omega)) (b[b.length-1-k]'(by omega))≠0) :
  Nm.cmp a b=cmpL (a[a.length-1-k]'(by omega)) (b[b.length-1-k]'(by omega)):=by
 rw[h.eq,Nm.rev_drop a k ha,Nm.rev_drop b k hb,Nm.cmpR,if_neg hz]
theorem Nm.CmAt.done {a b:List (List UInt8)} {k} (h:Nm.CmAt a b k) (hd:¬(k<a.length/\k<b.length)):Nm.cmp a b=Nm.sgn a.length b.length:=by
 rw[h.eq];have h1:=h.la;have h2:=h.lb;unfold Nm.sgn;by_cases ha:k<a.length
 ·have hb:¬k<b.length:=fun hb=>hd ⟨ha,hb⟩
  rw[Nm.rev_drop a k ha,Zz (l:=b.reverse) (by simp;omega),Nm.cmpR,if_neg (by omega),if_pos (by omega)]
 ·rw[Zz (l:=a.reverse) (by simp;omega)]
  by_cases hb:k<b.length
  ·rw[Nm.rev_drop b k hb,Nm.cmpR,if_pos (by omega)]
  ·rw[Zz (l:=b.reverse) (by simp;omega),Nm.cmpR,if_neg (by omega),if_neg (by omega)]
set_option maxHeartbeats 1000000 in
theorem isNaN_any (x:Int) (w:World):Calls Tryz.prog 66 #[.int .i64 x] w fun e w'=>e=.returned (.bool false)/\w=w':=by
 go_enter Tryz.func66,Tryz.ntmps66
 go_wp2
 go_ret
 exact⟨rfl,rfl⟩
set_option maxHeartbeats 1000000 in
theorem cmpInt_any (x y:Int) (w:World):Calls Tryz.prog 35 #[.int .i64 x,.int .i64 y] w fun e w'=>e=.returned (.int .i64 (Nm.sgn x y))/\w=w':=by
 rcases Int.lt_trichotomy x y with h|h|h
 ·have H:=Hd (show Nm.sgn x y=-1 by unfold Nm.sgn;rw[if_pos h])
  go_enter Tryz.func35,Tryz.ntmps35
  go_wp2_with (go_at_call 66;refine (isNaN_any _ _).mono ?_;rintro e w1 ⟨rfl,rfl⟩)
  go_ret
  exact⟨by rw[H.out];rfl,rfl⟩
 ·subst h
  have H:=Hd (show Nm.sgn x x=0 by unfold Nm.sgn;rw[if_neg (by omega),if_neg (by omega)])
  go_enter Tryz.func35,Tryz.ntmps35
  go_wp2_with (go_at_call 66;refine (isNaN_any _ _).mono ?_;rintro e w1 ⟨rfl,rfl⟩)
  go_ret
  exact⟨by rw[H.out];rfl,rfl⟩
 ·have H:=Hd (show Nm.sgn x y=1 by unfold Nm.sgn;rw[if_neg (by omega),if_pos h])
  go_enter Tryz.func35,Tryz.ntmps35
  go_wp2_with (go_at_call 66;refine (isNaN_any _ _).mono ?_;rintro e w1 ⟨rfl,rfl⟩)
  go_ret
  exact⟨by rw[H.out];rfl,rfl⟩
set_option maxHeartbeats 1000000 in
theorem sign_any (x:Int) (w:World):Calls Tryz.prog 123 #[.int .i64 x] w fun e w'=>e=.returned (.int .i64 (Nm.sgn x 0))/\w=w':=by
 rcases Int.lt_trichotomy x 0 with h|h|h
 ·have H:=Hd (show Nm.sgn x 0=-1 by unfold Nm.sgn;rw[if_pos h])
  go_enter Tryz.func123,Tryz.ntmps123
  go_wp2
  go_ret
  exact⟨by rw[H.out];rfl,rfl⟩
 ·subst h
  go_enter Tryz.func123,Tryz.ntmps123
  go_wp2
  go_ret
  exact⟨rfl,rfl⟩
 ·have H:=Hd (show Nm.sgn x 0=1 by unfold Nm.sgn;rw[if_neg (by omega),if_pos h])
  go_enter Tryz.func123,Tryz.ntmps123
  go_wp2
  go_ret
  exact⟨by rw[H.out];rfl,rfl⟩
theorem Nm.sgn_sub (x y:Int):Nm.sgn x y=Nm.sgn (x-y) 0:=by unfold Nm.sgn;split<;>split<;>(try split)<;>(try split)<;>omega
set_option maxHeartbeats 2000000 in
theorem nCompare_any (v u:Value) (a b:List (List UInt8)) (w:World) (hv:Rd v a w) (hu:Rd u b w) (ha:NB a) (hb:NB b) :
  Calls Tryz.prog 34 #[v,u] w (Gives (.int .i64 (Nm.cmp a b)) w):=by
 obtain⟨o,cap,rfl,h1,h2⟩:=hv.form;obtain⟨o',cap',rfl,h1',h2'⟩:=hu.form;have HC:=Hd hv.cells;have HD:=Hd hu.cells;have na:(a.length:Int)<=1000:=by have:=ha.1;omega
 have nb:(b.length:Int)<=1000:=by have:=hb.1;omega
 have GA:=Hd (show ∀k (h:k<a.length),a[k].length<=1000000 from fun k h=>by have:=ha.get h;omega)
 have GB:=Hd (show ∀k (h:k<b.length),b[k].length<=1000000 from fun k h=>by have:=hb.get h;omega)
 clear hv hu ha hb;refine (zF (n:=0)).1 ?_;refine callsIn_of_wp Tryz.func34 rfl trivial ?_ rfl;simp only[Tryz.ntmps34,Zo,Ze,Zg,Nat.reduceAdd,Nat.reduceSub,Zi,Zj,Zk,Zl,Zm,Zp];gi_wp2
 gi_loopw [12] (fun i wr=>∃k:Nat,Nm.CmAt a b k/\i=.int .i64 k/\Below w.heap.size w wr) (fun i _=>a.length-(intOf i).toNat)
 case atStart=>exact⟨0,Nm.CmAt.start a b,rfl,Below.refl _ _⟩
 case round =>
  obtain⟨k,hto,rfl,hb⟩:=hrel;have hla:=hto.la;have hlb:=hto.lb;by_cases hlt:k<a.length/\k<b.length
  ·obtain⟨l1,l2⟩:=hlt
   obtain⟨x,rfl,e1⟩:=HC.out _ hb (a.length-1-k) (by omega)
   obtain⟨y,rfl,e2⟩:=HD.out _ hb (b.length-1-k) (by omega)
   have g1:=GA.out (a.length-1-k) (by omega)
   have g2:=GB.out (b.length-1-k) (by omega)
   obtain⟨z,hz⟩:=Zq (cmpL (a[a.length-1-k]'(by omega)) (b[b.length-1-k]'(by omega)))
   have HZ:=Hd hz;gi_wp2_with fail
   refine Z8 [7,15] (fun w'=>w'.cell? (x.add (a.length-1-k))=some (S (a[a.length-1-k]'(by omega)))/\w'.cell? (y.add (b.length-1-k))=some (S (b[b.length-1-k]'(by omega)))) 18 rfl (by kernel_rfl) ?_
   intro w' hw';have hS:w'.cell? (x.add (a.length-1-k))=some (S (a[a.length-1-k]'(by omega)))/\w'.cell? (y.add (b.length-1-k))=some (S (b[b.length-1-k]'(by omega))):=by subst hw';exact⟨e1,e2⟩
   have hb':Below w.heap.size w w':=by subst hw';exact hb.drew
   clear hw';have hw1:IntKind.i64.wrap ((a.length:Int)-1)=a.length-1:=IntWalk.i64_in _ (by omega)
   have hw2:IntKind.i64.wrap ((a.length:Int)-1-k)=a.length-1-k:=IntWalk.i64_in _ (by omega)
   have hw3:IntKind.i64.wrap ((b.length:Int)-1)=b.length-1:=IntWalk.i64_in _ (by omega)
   have hw4:IntKind.i64.wrap ((b.length:Int)-1-k)=b.length-1-k:=IntWalk.i64_in _ (by omega)
   refine tB 0 ?_;refine tB 1 ?_;refine tB 2 ?_;refine tB 3 ?_;refine tB 4 ?_;refine tB 5 ?_;refine tD 6 ?_;refine tB 8 ?_;refine tB 9 ?_;refine tB 10 ?_;refine tB 11 ?_;refine tB 12 ?_;refine tB 13 ?_;refine tD 14 ?_;refine tA 7 hS ?_;refine tA 15 hS ?_;clear hw1 hw2 hw3 hw4;refine oneH 16 (by rfl) (by kernel_rfl) (fun K hK=>?_)
   gi_wp2_with (gi_at_call 65;refine (callsIn_wide.2 (compare_any _ _ _ g1 g2)).mono ?_;rintro e w1 ⟨rfl,b1⟩;rw[HZ.out])
   have hb1:=Z5 hb' b1;refine hK _ _ (fun h=>absurd h (by decide)) ?_
   clear hK K;refine oneH 17 (by rfl) (by kernel_rfl) (fun K hK=>?_)
   gi_wp2_with fail
   refine hK _ _ (fun h=>absurd h (by decide)) ?_
   clear hK K;refine Z9 (by kernel_rfl) ?_
   by_cases h0:z=0
   ·have HT:=Hd (hto.go l1 l2 (hz.trans h0))
    clear hto hz;subst h0;gi_wp2_with fail
    exact⟨⟨k+1,HT.out,by go_num,hb1⟩,by simp[intOf];omega⟩
   ·have HF:=Hd (hto.stop l1 l2 (by rw[hz];exact h0))
    have hz':(z != 0)=true:=by simpa using h0
    clear hto hz h0;gi_wp2_with fail
    go_ret
    exact⟨by rw[HF.out,HZ.out];rfl,hb1⟩
  ·have HF:=Hd (hto.done hlt)
   have hlt':(k:Int)<a.length->¬((k:Int)<b.length):=by omega
   clear hto;gi_wp2_with (gi_at_call 35;refine (callsIn_wide.2 (cmpInt_any _ _ _)).mono ?_;rintro e w1 ⟨rfl,rfl⟩)
   go_ret
   exact⟨by rw[HF.out];rfl,hb⟩
set_option maxHeartbeats 2000000 in
theorem zD (v u:Value) (a b:List (List UInt8)) (w:World) (hv:Rd v a w) (hu:Rd u b w) (ha:NB a) (hb:NB b) :
  Calls Tryz.prog 101 #[v,u] w (Gives (.int .i64 (Nm.cmp a b)) w):=by
 obtain⟨o,cap,rfl,h1,h2⟩:=hv.form;obtain⟨o',cap',rfl,h1',h2'⟩:=hu.form;have HC:=Hd hv.cells;have HD:=Hd hu.cells;have na:(a.length:Int)<=1000:=by have:=ha.1;omega
 have nb:(b.length:Int)<=1000:=by have:=hb.1;omega
 have GA:=Hd (show ∀k (h:k<a.length),a[k].length<=1000000 from fun k h=>by have:=ha.get h;omega)
 have GB:=Hd (show ∀k (h:k<b.length),b[k].length<=1000000 from fun k h=>by have:=hb.get h;omega)
 clear hv hu ha hb;refine (zF (n:=0)).1 ?_;refine callsIn_of_wp Tryz.func101 rfl trivial ?_ rfl;simp only[Tryz.ntmps101,Zo,Ze,Zg,Nat.reduceAdd,Nat.reduceSub,Zi,Zj,Zk,Zl,Zm,Zp];gi_wp2
 gi_loopw [5] (fun i wr=>∃k:Nat,Nm.CmAt a b k/\i=.int .i64 ((k:Int)+1)/\Below w.heap.size w wr) (fun i _=>a.length+1-(intOf i).toNat)
 case atStart=>exact⟨0,Nm.CmAt.start a b,rfl,Below.refl _ _⟩
 case round =>
  obtain⟨k,hto,rfl,hb⟩:=hrel;have hla:=hto.la;have hlb:=hto.lb;by_cases hlt:k<a.length/\k<b.length
  ·obtain⟨l1,l2⟩:=hlt
   obtain⟨x,rfl,e1⟩:=HC.out _ hb (a.length-1-k) (by omega)
   obtain⟨y,rfl,e2⟩:=HD.out _ hb (b.length-1-k) (by omega)
   have g1:=GA.out (a.length-1-k) (by omega)
   have g2:=GB.out (b.length-1-k) (by omega)
   obtain⟨z,hz⟩:=Zq (cmpL (a[a.length-1-k]'(by omega)) (b[b.length-1-k]'(by omega)))
   have HZ:=Hd hz;gi_wp2_with fail
   refine Z8 [6,13] (fun w'=>w'.cell? (x.add (a.length-1-k))=some (S (a[a.length-1-k]'(by omega)))/\w'.cell? (y.add (b.length-1-k))=some (S (b[b.length-1-k]'(by omega)))) 16 rfl (by kernel_rfl) ?_
   intro w' hw';have hS:w'.cell? (x.add (a.length-1-k))=some (S (a[a.length-1-k]'(by omega)))/\w'.cell? (y.add (b.length-1-k))=some (S (b[b.length-1-k]'(by omega))):=by subst hw';exact⟨e1,e2⟩
   have hb':Below w.heap.size w w':=by subst hw';exact hb.drew
   clear hw';have hw2:IntKind.i64.wrap ((a.length:Int)-(k+1))=a.length-1-k:=(IntWalk.i64_in _ (by omega)).trans (by omega)
   have hw4:IntKind.i64.wrap ((b.length:Int)-(k+1))=b.length-1-k:=(IntWalk.i64_in _ (by omega)).trans (by omega)
   refine tB 0 ?_;refine tB 1 ?_;refine tB 2 ?_;refine tB 3 ?_;refine tB 4 ?_;refine tD 5 ?_;refine tB 7 ?_;refine tB 8 ?_;refine tB 9 ?_;refine tB 10 ?_;refine tB 11 ?_;refine tD 12 ?_;refine tA 6 hS ?_;refine tA 13 hS ?_;clear hw2 hw4;refine oneH 14 (by rfl) (by kernel_rfl) (fun K hK=>?_)
   gi_wp2_with (gi_at_call 122;refine (callsIn_wide.2 (refCompare_any _ _ _ g1 g2)).mono ?_;rintro e w1 ⟨rfl,b1⟩;rw[HZ.out])
   have hb1:=Z5 hb' b1;refine hK _ _ (fun h=>absurd h (by decide)) ?_
   clear hK K;refine oneH 15 (by rfl) (by kernel_rfl) (fun K hK=>?_)
   gi_wp2_with fail
   refine hK _ _ (fun h=>absurd h (by decide)) ?_
   clear hK K;refine Z9 (by kernel_rfl) ?_
   by_cases h0:z=0
   ·have HT:=Hd (hto.go l1 l2 (hz.trans h0))
    clear hto hz;subst h0;gi_wp2_with fail
    exact⟨⟨k+1,HT.out,by go_num,hb1⟩,by simp[intOf];omega⟩
   ·have HF:=Hd (hto.stop l1 l2 (by rw[hz];exact h0))
    have hz':(z != 0)=true:=by simpa using h0
    clear hto hz h0;gi_wp2_with fail
    go_ret
    exact⟨by rw[HF.out,HZ.out];rfl,hb1⟩
  ·have HF:=Hd (hto.done hlt)
   have HSG:=Hd (Nm.sgn_sub a.length b.length);have hlt':(k:Int)<a.length->¬((k:Int)<b.length):=by omega
   clear hto;gi_wp2_with (gi_at_call 123;refine (callsIn_wide.2 (sign_any _ _)).mono ?_;rintro e w1 ⟨rfl,rfl⟩)
   all_goals go_ret
   all_goals exact⟨by rw[HF.out,HSG.out];rfl,hb⟩
end
section
open Go.RowKit Go.Shelf
def Nm.foldTo (n:List (List UInt8)) (k:Nat):List (List UInt8):=(n.take k).map Lb.fold++List.replicate (n.length-k) []
theorem Nm.foldTo_zero (n:List (List UInt8)):Nm.foldTo n 0=List.replicate n.length []:=by simp[Nm.foldTo]
theorem Nm.foldTo_length (n:List (List UInt8)) (k:Nat) (h:k<=n.length):(Nm.foldTo n k).length=n.length:=by simp[Nm.foldTo];omega
theorem Nm.foldTo_succ (n:List (List UInt8)) (k:Nat) (h:k<n.length):((Nm.foldTo n k).map S).set k (S (Lb.fold n[k]))=(Nm.foldTo n (k+1)).map S:=by
 rw[<-List.map_set];congr 1
 unfold Nm.foldTo;rw[List.set_append_right _ _ (by simp;omega),Zx h,List.map_append,List.append_assoc]
 congr 1
 rw[show k-((n.take k).map Lb.fold).length=0 by simp;omega,show n.length-k=(n.length-(k+1))+1 by omega,List.replicate_succ,Zc]
 rfl
end
section
open Go.RowKit Go.Shelf
def RdErr (p:List (List UInt8) × Int) (w:World) (e:Ending) (w':World):Prop:=∃v,e=.returned (.tuple #[v,.int .i64 p.2])/\Rd v p.1 w'/\Below w.heap.size w w'
theorem NB.append {a b:List (List UInt8)} (ha:NB a) (hb:NB b) (h:a.length+b.length<=1000):NB (a++b):=⟨by simpa using h,fun x hx=>by
 rcases List.mem_append.1 hx with h|h
 ·exact ha.2 x h
 ·exact hb.2 x h⟩
theorem Nm.under_le' {n f:List (List UInt8)} (h:Nm.under n f=true):f.length<=n.length:=by
 simp[Nm.under] at h;exact h.1
end
section
open Go.RowKit Go.Shelf
theorem Lb.parse_len {p:List UInt8} (_h:(Lb.parse p).2=0):(Lb.parse p).1.length<=63:=by
 unfold Lb.parse at _h ⊢;split
 ·rename_i hu
  rw[if_pos hu] at _h;split
  ·rename_i hc
   unfold Lb.check at hc;split at hc
   ·cases hc
   ·split at hc
    ·cases hc
    ·simpa using (by omega)
  ·simp
 ·simp
structure Nm.PtAt (l acc:List (List UInt8)) (k:Nat):Prop where
 le:k<=l.length
 len:acc.length=k
 short:∀x∈acc,x.length<=63
 eq:Nm.partsF l=(Nm.partsF (l.drop k)).map (fun x=>(acc++x.1,x.2))
theorem Nm.PtAt.start (l:List (List UInt8)):Nm.PtAt l [] 0:=by
 refine⟨by omega,rfl,fun x h=>(by cases h),?_⟩
 rw[List.drop_zero];cases Nm.partsF l with
 | error e=>rfl
 | ok x=>rfl
theorem Nm.PtAt.go {l acc k} (h:Nm.PtAt l acc k) (hk:k<l.length) (hl:¬(l[k]=[]/\k+1=l.length)) (hz:(Lb.parse l[k]).2=0):Nm.PtAt l (acc++[(Lb.parse l[k]).1]) (k+1):=by
 refine⟨hk,by simp[h.len],fun x hx=>?_,?_⟩
 ·rcases List.mem_append.1 hx with hx|hx
  ·exact h.short x hx
  ·rw[List.mem_singleton.1 hx];exact Lb.parse_len hz
 ·rw[h.eq,Zy hk,Nm.partsF,if_neg,if_pos hz]
  ·cases Nm.partsF (l.drop (k+1)) with
   | error e=>rfl
   | ok x=>simp[Except.map]
  ·rintro⟨h1,h2⟩
   exact hl ⟨h1,by have:=List.length_drop (i:=k+1) (l:=l);rw[h2] at this;simp at this;omega⟩
theorem Nm.PtAt.whole {l acc k} (h:Nm.PtAt l acc k) (hk:k<l.length) (hl:l[k]=[]/\k+1=l.length):Nm.partsF l=.ok (acc,true):=by
 rw[h.eq,Zy hk,Nm.partsF,if_pos ⟨hl.1,Zz (by omega)⟩]
 simp[Except.map]
theorem Nm.PtAt.done {l acc k} (h:Nm.PtAt l acc k) (hk:¬k<l.length):Nm.partsF l=.ok (acc,false):=by
 rw[h.eq,Zz (by omega),Nm.partsF]
 simp[Except.map]
def PartsP (r:Except Int (List (List UInt8) × Bool)) (w:World) (e:Ending) (w':World):Prop:=Below w.heap.size w w'/\match r with
 | .error z=>z≠0/\e=.returned (.tuple #[.slice none 0 0,.bool false,.int .i64 z])
 | .ok (n,b)=>n.length<=800/\(∀x∈n,x.length<=63)/\∃v,e=.returned (.tuple #[v,.bool b,.int .i64 0])/\Row (Own w) 9 1 v n.length (n.map S) w'
end
section
open Go.RowKit Go.Shelf
theorem NB.short {n:List (List UInt8)} (h:n.length<=800) (hs:∀x∈n,x.length<=63):NB n:=⟨by omega,fun x hx=>by have:=hs x hx;omega⟩
def Nm.parseB (r:Except Int (List (List UInt8) × Bool)) (n:List (List UInt8)):List (List UInt8) × Int:=match r with
 | .error e=>([],e)
 | .ok (m,true)=>Nm.fin m
 | .ok (m,false)=>Nm.fin (m++n)
end
section
open Go.RowKit Go.Shelf
def RpAt (w:World) (l:List (List UInt8)) (k:Nat) (acc:List (List UInt8)) (b:Bool) (v:Value) (wr:World):Prop :=
 acc.length<=800/\(∀x∈acc,x.length<=63)/\Row (Own w) 9 1 v acc.length (acc.map S) wr/\(b=false->Nm.PtAt l acc k)/\(b=true->k=l.length/\Nm.partsF l=.ok (acc,true))
end
section
open Go.RowKit Go.Shelf
theorem Rd.alloc {v l} {W:World} (h:Rd v l W) (o:Obj):Rd v l (W.alloc o):=h.kept fun _p hp=>World.cell?_of_block (Below.heap_alloc _ _ _ hp)
abbrev kn:List (List UInt8):=[[97],[66],[99]]
abbrev km:List (List UInt8):=[[120]]
abbrev ks:List (List UInt8):=[[97],[66],[100],[101]]
end
section
open Go.RowKit Go.Shelf Go.ChangeShapes Go.WideShapes
theorem Nm.few_len {n} (h:Nm.few n=true):n.length<=140:=by
 unfold Nm.few at h;simp only[Bool.and_eq_true,decide_eq_true_eq] at h;exact h.1
end
section
open Go.RowKit Go.Shelf
theorem Nm.check_zero {n:List (List UInt8)} (h:Nm.check n=0):Nm.check0 n=0/\Nm.len n<=255:=by
 unfold Nm.check at h;split at h
 ·rename_i h0
  split at h
  ·cases h
  ·exact⟨h0,by omega⟩
 ·rename_i h0;exact absurd h h0
theorem Lb.check_zero {m:Nat} (h:Lb.check m=0):0<m/\m<=63:=by
 unfold Lb.check at h;split at h
 ·cases h
 ·split at h
  ·cases h
  ·omega
theorem Lb.text_ne {x:List UInt8} (h:0<x.length):Lb.text x≠[]:=by
 cases x with
 | nil=>simp at h
 | cons c r =>
  show Lb.textC c++Lb.text r≠[];unfold Lb.textC;split
  ·simp[Lb.esc]
  ·split<;>simp
theorem Nm.words_ne {n:List (List UInt8)} (h:n≠[]) (hc:∀x∈n,Lb.check x.length=0):Nm.words n≠[64]/\Nm.words n≠[46]/\Nm.words n≠[]:=by
 cases n with
 | nil=>exact absurd rfl h
 | cons x r =>
  have hx:=Lb.text_ne (Lb.check_zero (hc x (Zu ..))).1;have hl:0<(Lb.text x).length:=List.length_pos_iff.2 hx;refine⟨fun e=>?_,fun e=>?_,fun e=>?_⟩
  all_goals
   have:=congrArg List.length e
   simp[Nm.words] at this
   try omega
theorem Nm.cmpR_anti:∀(a b:List (List UInt8)),Nm.cmpR b a=0-Nm.cmpR a b
 | [],[]=>rfl
 | [],_::_=>rfl
 | _::_,[]=>rfl
 | x::a,y::b=>by
  have h:cmpL y x=0-cmpL x y:=by unfold cmpL;rw[cmp_anti];omega
  unfold Nm.cmpR;by_cases h0:cmpL x y=0
  ·rw[if_pos h0,if_pos (by omega)];exact Nm.cmpR_anti a b
  ·rw[if_neg h0,if_neg (by omega)];exact h
theorem Nm.cmp_anti (a b:List (List UInt8)):Nm.cmp b a=0-Nm.cmp a b:=Nm.cmpR_anti _ _
theorem Nm.cmpR_zero:∀(a b:List (List UInt8)),(Nm.cmpR a b=0) ↔ a.map Lb.fold=b.map Lb.fold
 | [],[]=>by simp[Nm.cmpR]
 | [],_::_=>by simp[Nm.cmpR]
 | _::_,[]=>by simp[Nm.cmpR]
 | x::a,y::b=>by
  have h:cmpL x y=0 ↔ Lb.fold x=Lb.fold y:=by unfold cmpL;exact cmp_eq_zero _ _
  have ih:=Nm.cmpR_zero a b;unfold Nm.cmpR;by_cases h0:cmpL x y=0
  ·rw[if_pos h0,ih];simp[h.1 h0]
  ·rw[if_neg h0]
   simp only[List.map_cons,List.cons.injEq];exact⟨fun e=>absurd e h0,fun e=>absurd (h.2 e.1) h0⟩
theorem Nm.cmp_zero (a b:List (List UInt8)):(Nm.cmp a b == 0)=Nm.same a b:=by
 rw[Bool.eq_iff_iff,beq_iff_eq];unfold Nm.cmp Nm.same Nm.fold;rw[Nm.cmpR_zero,beq_iff_eq,List.map_reverse,List.map_reverse];exact⟨fun h=>List.reverse_inj.1 h,fun h=>by rw[h]⟩
end
section
open Go.RowKit Go.Shelf
end
section
open Go.RowKit Go.Shelf
theorem cmpL_zero (x y:List UInt8):cmpL x y=0 ↔ Lb.fold x=Lb.fold y:=by unfold cmpL;exact cmp_eq_zero _ _
theorem cmpL_anti (x y:List UInt8):cmpL y x=- cmpL x y:=by unfold cmpL;exact cmp_anti _ _
theorem cmpL_left {x y:List UInt8} (h:cmpL x y=0) (z:List UInt8):cmpL x z=cmpL y z:=by unfold cmpL;rw[(cmpL_zero x y).1 h]
theorem cmpL_right {y z:List UInt8} (h:cmpL y z=0) (x:List UInt8):cmpL x y=cmpL x z:=by unfold cmpL;rw[(cmpL_zero y z).1 h]
theorem cmpL_lt {x y z:List UInt8} (h:cmpL x y<0) (k:cmpL y z<0):cmpL x z<0:=by
 have h1:cmpL x z<=0:=by unfold cmpL at *;exact cmp_trans _ (Lb.fold y) _ (by omega) (by omega)
 have h2:cmpL x z≠0:=fun e=>by
  have:=cmpL_right e y
  have:=cmpL_anti x y
  omega
 omega
theorem Nm.cmpR_trans:∀(a b c:List (List UInt8)),Nm.cmpR a b<=0->Nm.cmpR b c<=0->Nm.cmpR a c<=0
 | [],_,[],_,_=>by simp[Nm.cmpR]
 | [],_,_::_,_,_=>by simp[Nm.cmpR]
 | _::_,[],_,h,_=>by simp[Nm.cmpR] at h
 | _::_,_::_,[],_,h=>by simp[Nm.cmpR] at h
 | x::a,y::b,z::c,h,k=>by
  unfold Nm.cmpR at h k ⊢;by_cases h0:cmpL x y=0
  ·rw[if_pos h0] at h
   rw[cmpL_left h0 z];by_cases k0:cmpL y z=0
   ·rw[if_pos k0] at k ⊢
    exact Nm.cmpR_trans a b c h k
   ·rw[if_neg k0] at k ⊢
    exact k
  ·rw[if_neg h0] at h
   by_cases k0:cmpL y z=0
   ·rw[<-cmpL_right k0 x,if_neg h0];exact h
   ·rw[if_neg k0] at k
    have:=cmpL_lt (x:=x) (y:=y) (z:=z) (by omega) (by omega)
    rw[if_neg (by omega)];omega
theorem Nm.cmp_trans {a b c:List (List UInt8)} (h:Nm.cmp a b<=0) (k:Nm.cmp b c<=0):Nm.cmp a c<=0:=Nm.cmpR_trans _ _ _ h k
theorem Nm.cmpR_range:∀(a b:List (List UInt8)),-1<=Nm.cmpR a b/\Nm.cmpR a b<=1
 | [],[]=>by simp[Nm.cmpR]
 | [],_::_=>by simp[Nm.cmpR]
 | _::_,[]=>by simp[Nm.cmpR]
 | x::a,y::b=>by
  unfold Nm.cmpR;split
  ·exact Nm.cmpR_range a b
  ·have:=cmp_range (Lb.fold x) (Lb.fold y)
   unfold cmpL;omega
theorem Nm.cmp_range (a b:List (List UInt8)):-1<=Nm.cmp a b/\Nm.cmp a b<=1:=Nm.cmpR_range _ _
theorem Nm.fold_length (n:List (List UInt8)):(Nm.fold n).length=n.length:=by simp[Nm.fold]
end
end Go.Proofs.YtgmbefolgppmdaaGreat
