/- Bytes and strings.Builder. -/
import Derived.Test.YtgmbefolgppmdaaGreatLReg
import Derived.Test.YtgmbefolgppmdaaGreatLAli
import Derived.Deep.QuietTactic
import Derived.BigQuiet
section
namespace Go.Proofs.YtgmbefolgppmdaaGreat
open Go.RowKit Go.Shelf
set_option maxRecDepth 100000
def ByteRow (g:Nat) (l:List UInt8) (W:World):Prop:=∃cur lo hi,W.heap[g]? = some (.cells cur 5 (lo,hi))/\l.length<=lo/\∀j (h:j<l.length),cur[j]? = some (.int .u8 (l[j].toNat:Int))
theorem ByteRow.lt {g l W} (h:ByteRow g l W):g<W.heap.size:=by obtain⟨_,_,_,h,_⟩:=h;exact (Array.getElem?_eq_some_iff.1 h).1
theorem ByteRow.cell {g l W} (h:ByteRow g l W) (j:Nat) (hj:j<l.length):W.cell? ⟨g,j,none⟩=some (.int .u8 (l[j].toNat:Int)):=by
 obtain⟨cur,lo,hi,hg,_,hc⟩:=h;rw[cell_of_row W g j _ _ _ hg];exact hc j hj
theorem ByteRow.frozen {g l W} (h:ByteRow g l W) (j:Nat) (hj:j<l.length):W.frozen? ⟨g,j,none⟩=false:=by
 obtain⟨cur,lo,hi,hg,hl,_⟩:=h;simp[World.frozen?,hg];omega
theorem ByteRow.set {g l W} (h:ByteRow g l W) (j:Nat) (c:UInt8):ByteRow g (l.set j c) (W.setCell ⟨g,j,none⟩ (.int .u8 (c.toNat:Int))):=by
 obtain⟨cur,lo,hi,hg,hl,hc⟩:=h;refine⟨cur.setIfInBounds j (.int .u8 (c.toNat:Int)),lo,hi,?_,by simpa using hl,fun i hi'=>?_⟩
 ·simp[World.setCell,Array.getElem?_modify,hg]
 ·simp only[List.length_set] at hi'
  have:=hc i hi'
  have hs:=(Array.getElem?_eq_some_iff.1 this).1;rw[Array.getElem?_setIfInBounds,List.getElem_set];by_cases e:j=i
  ·subst e;simp[hs]
  ·simp[e,this]
theorem ByteRow.kept {g l} {W W':World} (h:ByteRow g l W) (hg:W'.heap[g]? = W.heap[g]?):ByteRow g l W':=by
 obtain⟨cur,lo,hi,h1,r⟩:=h;exact⟨cur,lo,hi,hg.trans h1,r⟩
theorem ByteRow.put {g l W n r} (h:ByteRow g l W) (hr:W.heap[n]? = some (.loop r)) (o:Obj):ByteRow g l (W.putObj n o):=by
 refine h.kept (World.putObj_heap_other (fun e=>?_))
 obtain⟨_,_,_,h1,_⟩:=h;rw[e,hr] at h1;cases h1
theorem ByteRow.alloc {g l W} (h:ByteRow g l W) (o:Obj):ByteRow g l (W.alloc o):=h.kept (Below.heap_alloc W o g h.lt)
theorem ByteRow.setOther {g l W} (h:ByteRow g l W) {c o:Nat} (hne:g≠c) (u:Value):ByteRow g l (W.setCell ⟨c,o,none⟩ u):=h.kept (Below.heap_setCell _ _ _ _ hne)
theorem bytes_of (l:List UInt8) (w:World):∃(cap:Nat) (W1:World),(convert 9 104 (S l)).run Tryz.prog w=.ok (.slice (some ⟨w.heap.size,0,none⟩) l.length cap) W1 /\
  ByteRow w.heap.size l W1/\Below w.heap.size w W1/\W1.heap.size=w.heap.size+1:=by
 refine⟨_,_,run_bytes_of_string w _ _ 5 ⟨l.toArray⟩ Tryz.underlying9 Tryz.underlying104 Tryz.underlying5,⟨_,_,_,World.alloc_heap_new w.drew _,?_,fun j hj=>?_⟩,((Below.refl _ w).drew.alloc (Zh _) _),by simp⟩
 ·simp[bytesRow]
 ·simp only[bytesRow];rw[Array.getElem?_append_left (by simpa using hj)];simp[hj]
theorem conv_row (g:Nat) (l:List UInt8) (cap:Nat) (W:World) (h:ByteRow g l W):(convert 104 9 (.slice (some ⟨g,0,none⟩) l.length cap)).run Tryz.prog W=.ok (S l) W:=by
 refine run_convert_bytes_back _ _ _ 5 _ _ l Tryz.underlying104 Tryz.underlying5 Tryz.underlying9 (fun j hj=>?_)
 have hadd:(⟨g,0,none⟩:Addr).add j=⟨g,j,none⟩:=by unfold Addr.add;split<;>simp_all
 rw[hadd,h.cell j hj]
end Go.Proofs.YtgmbefolgppmdaaGreat
end
section
namespace Go.Proofs.YtgmbefolgppmdaaGreat
open Go.RowKit Go.Shelf
set_option maxRecDepth 100000
attribute [local go_sem] Oper.semAt_some
set_option maxHeartbeats 400000 in
theorem octets_any (s:List UInt8) (w:World) :
  Calls Tryz.prog 96 #[S s] w fun e w'=>e=.returned (.func (.func 120) #[] #[.pointer (some ⟨w.heap.size,0,none⟩)])/\w.alloc (.cells #[S s] 9)=w':=by
 go_enter Tryz.func96,Tryz.ntmps96
 go_wp2
 go_ret
 exact⟨rfl,rfl⟩
def octY (s:List UInt8) (k:Nat) (_:World) (v:Array Value) (k':Nat):Prop:=∃h:k<s.length,v=#[.int .i64 k,.int .u8 s[k].toNat]/\k'=k+1
set_option maxHeartbeats 400000 in
theorem octets1_iter (b:Nat) (s:List UInt8) (hs:s.length<=1000000) :
  Iter Tryz.prog 120 #[.pointer (some ⟨b,0,none⟩)] (fun W=>W.cell? ⟨b,0,none⟩=some (S s)) (fun A B=>A=B) (sameCell b) (octY s) 0 (fun k=>k=s.length):=by
 intro l J Jx W hpre _ _ hY h0;refine callsIn_of_wp Tryz.func120 rfl trivial ?_ rfl;simp only[Tryz.ntmps120,Zo,Ze,Zg,Nat.reduceAdd,Nat.reduceSub,Zi,Zj,Zk,Zl,Zm,Zp];gi_wp2
 gi_loopw [3] (fun p wr=>∃k:Nat,k<=s.length/\p=.int .i64 k/\J k wr/\wr.cell? ⟨b,0,none⟩=some (S s)) (fun p _=>s.length-(intOf p).toNat)
 case atStart=>exact⟨0,by omega,rfl,h0,hpre⟩
 case round =>
  obtain⟨k,hk,rfl,hJ,hc⟩:=hrel;by_cases hlt:k<s.length
  ·obtain⟨fn,tmps,assign,body,hy,hR⟩:=hY k (k+1) _ wr hJ ⟨hlt,rfl,rfl⟩
   gi_wp2
   refine hR.mono ?_;rintro e W3 (⟨rfl,hJ3,hk3⟩|⟨rfl,hJx3⟩)
   ·have hc3:W3.cell? ⟨b,0,none⟩=some (S s):=Eq.trans hk3 hc
    gi_wp2
    go_roundw
    case rel=>exact⟨k+1,by omega,by go_num,hJ3,hc3⟩
    case measure=>simp[intOf];omega
   ·gi_wp2
    refine bodyPost_ret (results_none rfl _ _ _) rfl ?_;exact⟨⟨_,rfl⟩,.inr hJx3⟩
  ·obtain rfl:s.length=k:=by omega
   gi_wp2
   go_end0
   exact⟨⟨_,rfl⟩,.inl ⟨_,rfl,hJ⟩⟩
end Go.Proofs.YtgmbefolgppmdaaGreat
end
section
namespace Go.Proofs.YtgmbefolgppmdaaGreat.Lb
def marks:List UInt8:=[46,92,34,40,41,59,64,36]
def esc (c:UInt8):List UInt8:=[92,48+c / 100,48+c / 10 % 10,48+c % 10]
def textC (c:UInt8):List UInt8:=if c.toNat<=32\/127<=c.toNat then esc c else if c∈marks then [92,c] else [c]
def text (l:List UInt8):List UInt8:=l.flatMap textC
theorem textC_len (c:UInt8):(textC c).length<=4:=by
 unfold textC;split
 ·simp[esc]
 ·split<;>simp
theorem text_len (l:List UInt8):(text l).length<=4*l.length:=by
 induction l with
 | nil=>simp[text]
 | cons c r ih=>have:=textC_len c;simp only[text,List.flatMap_cons,Zb,Ze] at *;omega
def refTextC (c:UInt8):List UInt8:=if c∈marks then [92,c] else if 33<=c.toNat/\c.toNat<=126 then [c] else esc c
def check (n:Nat):Int:=if n=0 then 8 else if 63<n then 3 else 0
def low (c:UInt8):UInt8:=if 65<=c.toNat/\c.toNat<=90 then c+32 else c
def fold (l:List UInt8):List UInt8:=l.map low
def foldTo (l:List UInt8) (k:Nat):List UInt8:=fold (l.take k)++l.drop k
theorem foldTo_zero (l:List UInt8):foldTo l 0=l:=by simp[foldTo,fold]
theorem foldTo_length (l:List UInt8) (k:Nat):(foldTo l k).length=l.length:=by simp[foldTo,fold];omega
theorem foldTo_all (l:List UInt8):foldTo l l.length=fold l:=by simp[foldTo,fold]
theorem foldTo_get (l:List UInt8) (k:Nat) (h:k<l.length):(foldTo l k)[k]'(by rw[foldTo_length];exact h)=l[k]:=by
 simp only[foldTo,fold];rw[Zs (by simp;omega)]
 simp[List.getElem_drop];congr 1;omega
theorem foldTo_succ (l:List UInt8) (k:Nat) (h:k<l.length):foldTo l (k+1)=(foldTo l k).set k (low l[k]):=by
 apply List.ext_getElem?
 intro i;rw[List.getElem?_set,foldTo_length];simp only[foldTo,fold,List.map_take];by_cases e:k=i
 ·subst e
  rw[List.getElem?_append_left (by simp;omega)]
  simp[h]
 ·by_cases e2:i<k
  ·rw[List.getElem?_append_left (by simp;omega),List.getElem?_append_left (by simp;omega)]
   rw[if_neg e];simp[e2,show i<k+1 by omega]
  ·rw[List.getElem?_append_right (by simp;omega),List.getElem?_append_right (by simp;omega)]
   simp[e];congr 1;omega
theorem foldTo_same (l:List UInt8) (k:Nat) (h:k<l.length) (hl:low l[k]=l[k]):foldTo l (k+1)=foldTo l k:=by
 rw[foldTo_succ l k h,hl];have:=foldTo_get l k h
 conv=>rhs;rw[<-@List.set_getElem_self _ (foldTo l k) k (by rw[foldTo_length];exact h)]
 rw[this]
theorem low_not (c:UInt8) (h:¬(65<=c.toNat/\c.toNat<=90)):low c=c:=by simp[low,h]
theorem low_nat (c:UInt8) (h:65<=c.toNat/\c.toNat<=90):(low c).toNat=c.toNat+32:=by simp[low,h,UInt8.toNat_add];omega
abbrev isDig (c:UInt8):Prop:=48<=c.toNat/\c.toNat<=57
def num3 (a b c:UInt8):Nat:=100*(a.toNat-48)+10*(b.toNat-48)+(c.toNat-48)
def escd:List UInt8->UInt8 × Nat × Int
 | []=>(0,0,2)
 | a::r=>if ¬isDig a then (a,1,0) else match r with
  | b::c::_=>if isDig b/\isDig c then (if 255<num3 a b c then (0,0,7) else (UInt8.ofNat (num3 a b c),3,0)) else (0,0,2)
  | _=>(0,0,2)
def unF (bare:List UInt8):Nat->List UInt8->Except Int (List UInt8)
 | _,[]=>.ok []
 | 0,_::_=>.ok []
 | n+1,c::r =>
  if c=92 then (if (escd r).2.2=0 then (unF bare n (r.drop (escd r).2.1)).map ((escd r).1::·) else .error (escd r).2.2)
  else if c∈bare then .error 2 else (unF bare n r).map (c::·)
def un (bare l:List UInt8):Except Int (List UInt8):=unF bare l.length l
theorem un_nil (bare:List UInt8):un bare []=.ok []:=rfl
def pairOf:Except Int (List UInt8)->List UInt8 × Int
 | .ok l=>(l,0)
 | .error e=>([],e)
def unesc (bare l:List UInt8):List UInt8 × Int:=pairOf (un bare l)
def parse (s:List UInt8):List UInt8 × Int :=
 if (unesc [46] s).2=0 then (if check (unesc [46] s).1.length=0 then ((unesc [46] s).1,0) else ([],check (unesc [46] s).1.length)) else ([],(unesc [46] s).2)
def Ahead (bare l out rest:List UInt8):Prop:=un bare l=(un bare rest).map (out++·)
theorem Ahead.start (bare l:List UInt8):Ahead bare l [] l:=by
 unfold Ahead;cases un bare l<;>rfl
theorem Ahead.step {bare l out rest rest':List UInt8} {x:List UInt8} (h:Ahead bare l out rest) (h2:un bare rest=(un bare rest').map (x++·)):Ahead bare l (out++x) rest':=by
 unfold Ahead at *;rw[h,h2];cases un bare rest'<;>simp[Except.map]
theorem Ahead.done {bare l out:List UInt8} (h:Ahead bare l out []):unesc bare l=(out,0):=by
 unfold unesc;rw[h,un_nil];simp[Except.map,pairOf]
end Go.Proofs.YtgmbefolgppmdaaGreat.Lb
end
section
namespace Go.Proofs.YtgmbefolgppmdaaGreat
open Go.RowKit Go.Shelf
set_option maxRecDepth 100000
attribute [local go_sem] Oper.semAt_some
end Go.Proofs.YtgmbefolgppmdaaGreat
end
section
namespace Go.Proofs.YtgmbefolgppmdaaGreat
open Go.RowKit Go.Shelf
set_option maxRecDepth 100000
attribute [local go_sem] Oper.semAt_some
set_option maxHeartbeats 1000000 in
theorem refFold_any (l:List UInt8) (w:World) (hl:l.length<=1000000) :
  Calls Tryz.prog 48 #[S l] w fun e w'=>e=.returned (S (Lb.fold l))/\Below w.heap.size w w':=by
 obtain⟨cap,W1,hrun,hrow,hb1,hs1⟩:=bytes_of l w
 go_enter Tryz.func48,Tryz.ntmps48
 go_wp2
 clear hrun
 go_loopw [4] (fun i wr=>∃k:Nat,k<=l.length/\i=.int .i64 k/\ByteRow w.heap.size (Lb.foldTo l k) wr/\Below w.heap.size w wr) (fun i _=>l.length-(intOf i).toNat)
 case atStart=>exact⟨0,by omega,rfl,by rw[Lb.foldTo_zero];exact hrow,hb1⟩
 case round =>
  obtain⟨k,hk,rfl,hr,hb⟩:=hrel;by_cases hlt:k<l.length
  ·have hlen:=Lb.foldTo_length l k
   have hc:=hr.cell k (by omega)
   rw[Lb.foldTo_get l k hlt] at hc;have hf:=hr.frozen k (by omega)
   by_cases h1:65<=l[k].toNat/\l[k].toNat<=90
   ·have HS:=Hd (Lb.foldTo_succ l k hlt)
    have HN:=Hd (Lb.low_nat l[k] h1);obtain⟨h11,h12⟩:65<=(l[k].toNat:Int)/\(l[k].toNat:Int)<=90:=by omega
    clear h1;go_wp2
    have hs:=hr.set k (Lb.low l[k]);rw[HN.out,<-HS.out] at hs;exact⟨⟨k+1,by omega,by go_num,hs,hb.setCell (p:=⟨w.heap.size,k,none⟩) (Zh _) _⟩,by simp[intOf];omega⟩
   ·have HS:=Hd (Lb.foldTo_same l k hlt (Lb.low_not _ h1))
    have hH:=Hd h1;clear h1;go_wp2
    all_goals first
     | (exfalso; have h2 : 65 <= (l[k].toNat : Int) := by assumption
        have h3:(l[k].toNat:Int)<=90:=by assumption
        exact hH.out ⟨by omega,by omega⟩)
     | exact⟨⟨k+1,by omega,by go_num,by rw[HS.out];exact hr,hb⟩,by simp[intOf];omega⟩
  ·obtain rfl:l.length=k:=by omega
   have hlen:=Lb.foldTo_length l l.length;rw[Lb.foldTo_all] at hr hlen;have hcv:=conv_row _ _ cap _ hr;rw[hlen] at hcv;go_wp2
   go_ret
   exact⟨rfl,hb⟩
def foldI (B:Nat) (cap:Nat) (w:World) (l:List UInt8) (k:Nat) (W:World):Prop :=
 k<=l.length/\ByteRow B (Lb.foldTo l k) W/\Box (B+1) 104 (.slice (some ⟨B,0,none⟩) l.length cap) W/\Box (B+2) 9 (S l) W/\Below B w W/\B+3<=W.heap.size
theorem foldI_put {B cap w l L} (hL:B<=L) (k:Nat) (A:World) (r:Loop) (o:Obj) (h:foldI B cap w l k A) (hr:A.heap[L]? = some (.loop r)):foldI B cap w l k (A.putObj L o):=by
 obtain⟨h1,h2,h3,h4,h5,h6⟩:=h;exact⟨h1,h2.put hr o,h3.put hr o,h4.put hr o,below_put h5 hL hr (by omega) o,by simpa using h6⟩
set_option maxRecDepth 10000 in
set_option maxHeartbeats 1000000 in
theorem fold_any (l:List UInt8) (w:World) (hl:l.length<=1000000) :
  Calls Tryz.prog 68 #[S l] w fun e w'=>e=.returned (S (Lb.fold l))/\Below w.heap.size w w':=by
 obtain⟨cap,W1,hrun,hrow,hb1,hs1⟩:=bytes_of l w;refine (zF (n:=0)).1 ?_;refine callsIn_of_wp_marks Tryz.func68 rfl trivial ?_ rfl;simp only[Tryz.ntmps68,Zo,Ze,Zg,Nat.reduceAdd,Nat.reduceSub,Zi,Zj,Zk,Zl,Zm,Zp];gi_wp2_with (gi_at_call 96;refine (callsIn_wide.2 (octets_any l _)).mono ?_;rintro e w' ⟨rfl,rfl⟩)
 clear hrun;have hx1:=Box.new W1 104 (.slice (some ⟨w.heap.size,0,none⟩) l.length cap);have hx2:=Box.new (W1.alloc (.cells #[.slice (some ⟨w.heap.size,0,none⟩) l.length cap] 104)) 9 (S l);rw[World.size_alloc] at hx2;rw[hs1] at hx1 hx2;obtain⟨W0,hW0,hI0,hs0⟩:∃W0,(W1.alloc (.cells #[.slice (some ⟨w.heap.size,0,none⟩) l.length cap] 104)).alloc (.cells #[S l] 9)=W0/\foldI w.heap.size cap w l 0 W0/\W0.heap.size=w.heap.size+3 :=
  ⟨_,rfl,⟨by omega,by rw[Lb.foldTo_zero];exact (hrow.alloc _).alloc _,hx1.alloc _,hx2,(hb1.alloc (by omega) _).alloc (by simp;omega) _,by simp;omega⟩,by simp;omega⟩
 rw[hW0];clear hW0 hx1 hx2 hrow hb1 hs1;refine rf_outer rfl (enters_of Tryz.func120 (by kernel_rfl) rfl) (octets1_iter (w.heap.size+2) l hl)
  (fun A B h=>by subst h;exact KeepsOthers.refl _) sameCell.trans (fun A o=>sameCell.put (by omega) A o)
  (fun _ _ _ _ ⟨_,h,_⟩=>by subst h;rfl)
  (foldI w.heap.size cap w l) (fun _ _=>False) (fun _ _ _ h e=>by subst e;exact h) (fun _ _ _ h _=>h)
  (foldI_put (by omega)) (fun _ _ _ _ h _=>h)
  (fun r=>?start) (fun r=>?pre) ?round ?done (fun _ _ h=>h.elim)
 case start =>
  obtain⟨h1,h2,h3,h4,h5,h6⟩:=hI0;exact⟨h1,(h2.alloc _).alloc _,(h3.alloc _).alloc _,(h4.alloc _).alloc _,(h5.alloc (by omega) _).alloc (by simp;omega) _,by simp;omega⟩
 case pre=>exact ((hI0.2.2.2.1.alloc _).alloc _).cell
 case round =>
  rintro n k k' v W hI ⟨h,rfl,rfl⟩;gi_wp2
  refine rfNext_same (Eq.refl _) hI (foldI_put (by omega)) ?_
  clear hI hI0;rintro W r rfl hr ⟨h1,h2,h3,h4,h5,h6⟩;have hlen:=Lb.foldTo_length l k;have hc:=h2.cell k (by omega)
  rw[Lb.foldTo_get l k h] at hc;have hf:=h2.frozen k (by omega)
  have hcb:=h3.cell;have hc255:((l[k].toNat:Nat):Int)<=255:=by have:=l[k].toNat_lt;omega
  by_cases hm:65<=l[k].toNat/\l[k].toNat<=90
  ·have HS:=Hd (Lb.foldTo_succ l k h)
   have HN:=Hd (Lb.low_nat l[k] hm);obtain⟨h11,h12⟩:65<=(l[k].toNat:Int)/\(l[k].toNat:Int)<=90:=by omega
   clear hm;gi_wp2
   have hs:=h2.set k (Lb.low l[k]);rw[HN.out,<-HS.out] at hs;rw[show ((l[k].toNat:Int)+97-65)=((l[k].toNat+32:Nat):Int) by omega]
   have hx:=h4.setOther (c:=w.heap.size) (o:=k) (by omega) (.int .u8 ((l[k].toNat+32:Nat):Int))
   exact⟨KeepsOthers.setCell _ _ _,h4.same hx,h,hs,h3.setOther (by omega) _,hx,h5.setCell (p:=⟨w.heap.size,k,none⟩) (Zh _) _,by simpa[World.setCell] using h6⟩
  ·have HS:=Hd (Lb.foldTo_same l k h (Lb.low_not _ hm))
   have hm':¬(65<=(l[k].toNat:Int))\/90<(l[k].toNat:Int):=by omega
   clear hm;have hH:=Hd hm';clear hm';gi_wp2
   all_goals first
    | (exfalso; have h2 : 65 <= (l[k].toNat : Int) := by assumption
       have h3:(l[k].toNat:Int)<=90:=by assumption
       have:=hH.out;omega)
    | exact⟨KeepsOthers.refl _,Eq.refl _,h,by rw[HS.out];exact h2,h3,h4,h5,h6⟩
 case done =>
  rintro k W rfl ⟨h1,h2,h3,h4,h5,h6⟩ hK;rw[hs0] at hK ⊢;have hlen:=Lb.foldTo_length l l.length;rw[Lb.foldTo_all] at h2 hlen;have hcv:=conv_row _ _ cap _ h2;rw[hlen] at hcv;have hcb:=h3.cell;gi_wp2
  refine⟨by simp,.inl ⟨_,_,rfl,run_takeDeferred hK,?_⟩⟩
  exact⟨_,results_tmp rfl _ _ _,rfl,h5.grown (grownBy_putObj' _ _ _) (by omega) (fun k e=>by have:=Option.some.inj e;omega)⟩
end Go.Proofs.YtgmbefolgppmdaaGreat
end
section
namespace Go.Proofs.YtgmbefolgppmdaaGreat
open Go.RowKit Go.Shelf
set_option maxRecDepth 100000
attribute [local go_sem] Oper.semAt_some
def DigN (s:List UInt8) (n:Nat):Prop:=n<=3/\∃h:n<=s.length,(∀j (hj:j<n),Lb.isDig (s[j]'(by omega)))/\(n=3\/n=s.length\/∃hn:n<s.length,¬Lb.isDig s[n])
def DigP (s:List UInt8) (w:World) (e:Ending) (w':World):Prop:=∃n:Nat,DigN s n/\e=.returned (.int .i64 n)/\w=w'
def DigTo (s:List UInt8) (k:Nat):Prop:=k<=3/\∃h:k<=s.length,(∀j (hj:j<k),Lb.isDig (s[j]'(by omega)))
theorem DigTo.zero (s:List UInt8):DigTo s 0:=⟨by omega,by omega,fun j hj=>by omega⟩
theorem DigTo.succ {s:List UInt8} {k:Nat} (h:DigTo s k) (h3:k<3) (hl:k<s.length) (hd:Lb.isDig s[k]):DigTo s (k+1):=by
 obtain⟨h1,h2,h4⟩:=h;refine⟨by omega,by omega,fun j hj=>?_⟩
 by_cases e:j=k
 ·subst e;exact hd
 ·exact h4 j (by omega)
theorem DigTo.done {s:List UInt8} {k:Nat} (h:DigTo s k) (hd:¬(k<3/\k<s.length)):DigN s k:=by
 obtain⟨h1,h2,h4⟩:=h;exact⟨h1,h2,h4,by omega⟩
theorem DigTo.stop {s:List UInt8} {k:Nat} (h:DigTo s k) (hl:k<s.length) (hd:¬Lb.isDig s[k]):DigN s k:=by
 obtain⟨h1,h2,h4⟩:=h;exact⟨h1,h2,h4,.inr (.inr ⟨hl,hd⟩)⟩
def EscP (s:List UInt8) (w:World) (e:Ending) (w':World):Prop:=e=.returned (.tuple #[.int .u8 (Lb.escd s).1.toNat,.int .i64 (Lb.escd s).2.1,.int .i64 (Lb.escd s).2.2])/\Below w.heap.size w w'
theorem EscP.mk {s:List UInt8} {w w':World} {a:Int} {b c:Int} (x:UInt8) (y:Nat) (z:Int) (h:Lb.escd s=(x,y,z)) (ha:a=x.toNat) (hb:b=y) (hc:c=z) (hw:Below w.heap.size w w'):EscP s w (.returned (.tuple #[.int .u8 a,.int .i64 b,.int .i64 c])) w':=by
 subst ha;subst hb;subst hc;unfold EscP;rw[h];exact⟨rfl,hw⟩
end Go.Proofs.YtgmbefolgppmdaaGreat
end
section
namespace Go.Proofs.YtgmbefolgppmdaaGreat
open Go.RowKit Go.Shelf
set_option maxRecDepth 100000
attribute [local go_sem] Oper.semAt_some
theorem CellsKept.setOther {W:World} (b:Nat) (_hb:∃v t f,W.heap[b]? = some (.cells v t f)) (u:Value) (k:Nat) (hk:k≠b):(W.setCell ⟨b,0,none⟩ u).heap[k]? = W.heap[k]?:=Below.heap_setCell _ _ _ _ hk
def UnX (B:Nat) (w:World) (s bare:List UInt8) (c:Code) (W:World):Prop :=
 c=.ret/\∃z:Int,Lb.unesc bare s=([],z)/\Box (B+2) 9 (S []) W/\Box (B+3) 234 (.int .i64 z) W/\Below B w W/\B+7<=W.heap.size
theorem UnX.put {B w s bare L} (hL:B<=L) (c:Code) (A:World) (r:Loop) (o:Obj) (h:UnX B w s bare c A) (hr:A.heap[L]? = some (.loop r)):UnX B w s bare c (A.putObj L o):=by
 obtain⟨h0,z,h1,h2,h3,h4,h5⟩:=h;exact⟨h0,z,h1,h2.put hr o,h3.put hr o,below_put h4 hL hr (by omega) o,by simpa using h5⟩
end Go.Proofs.YtgmbefolgppmdaaGreat
end
section
namespace Go.Proofs.YtgmbefolgppmdaaGreat
open Go.RowKit Go.Shelf
set_option maxRecDepth 100000
theorem cmp_anti:∀(a b:List UInt8),Lib.compareBytes b a=- Lib.compareBytes a b
 | [],[]=>rfl
 | [],_::_=>rfl
 | _::_,[]=>rfl
 | x::a,y::b=>by
  have ih:=cmp_anti a b;simp only[Lib.compareBytes];by_cases h1:x<y
  ·have h2:¬y<x:=by intro h;exact absurd (UInt8.lt_iff_toNat_lt.1 h) (by have:=UInt8.lt_iff_toNat_lt.1 h1;omega)
   simp[h1,h2]
  ·by_cases h2:y<x
   ·simp[h1,h2]
   ·simp[h1,h2,ih]
theorem cmp_eq_zero:∀(a b:List UInt8),Lib.compareBytes a b=0 ↔ a=b
 | [],[]=>by simp[Lib.compareBytes]
 | [],_::_=>by simp[Lib.compareBytes]
 | _::_,[]=>by simp[Lib.compareBytes]
 | x::a,y::b=>by
  have ih:=cmp_eq_zero a b;simp only[Lib.compareBytes];by_cases h1:x<y
  ·have:x≠y:=fun e=>by subst e;exact absurd (UInt8.lt_iff_toNat_lt.1 h1) (by omega)
   simp[h1,this]
  ·by_cases h2:y<x
   ·have:x≠y:=fun e=>by subst e;exact absurd (UInt8.lt_iff_toNat_lt.1 h2) (by omega)
    simp[h1,h2,this]
   ·have:x=y:=UInt8.toNat_inj.1 (by have:=mt UInt8.lt_iff_toNat_lt.2 h1;have:=mt UInt8.lt_iff_toNat_lt.2 h2;omega)
    simp[ih,this]
theorem cmp_range (a b:List UInt8):Lib.compareBytes a b=-1\/Lib.compareBytes a b=0\/Lib.compareBytes a b=1:=by
 induction a generalizing b with
 | nil=>cases b<;>simp[Lib.compareBytes]
 | cons x a ih =>
  cases b with
  | nil=>simp[Lib.compareBytes]
  | cons y b =>
   simp only[Lib.compareBytes];have:=ih b
   split
   ·simp
   ·split
    ·simp
    ·exact this
theorem cmp_trans:∀(a b c:List UInt8),Lib.compareBytes a b<=0->Lib.compareBytes b c<=0->Lib.compareBytes a c<=0
 | [],_,[]=>by simp[Lib.compareBytes]
 | [],_,_::_=>by simp[Lib.compareBytes]
 | _::_,[],_=>by simp[Lib.compareBytes]
 | _::_,_::_,[]=>by simp[Lib.compareBytes]
 | x::a,y::b,z::c=>by
  have ih:=cmp_trans a b c;simp only[Lib.compareBytes,UInt8.lt_iff_toNat_lt];intro h1 h2
  repeat' split at h1
  all_goals (repeat' split at h2)
  all_goals (repeat' split)
  all_goals first|omega|(exact ih h1 h2)
theorem less_cmp:∀(a b:List UInt8),Op.bytesLess a b=decide (Lib.compareBytes a b<0)
 | [],[]=>by simp[Lib.compareBytes,Op.bytesLess]
 | [],_::_=>by simp[Lib.compareBytes,Op.bytesLess]
 | _::_,[]=>by simp[Lib.compareBytes,Op.bytesLess]
 | x::a,y::b=>by
  have ih:=less_cmp a b;simp only[Lib.compareBytes,Op.bytesLess];by_cases h1:x<y
  ·simp[h1]
  ·by_cases h2:y<x
   ·have:x≠y:=fun e=>by subst e;exact absurd (UInt8.lt_iff_toNat_lt.1 h2) (by omega)
    simp[h1,h2,this]
   ·have:x=y:=UInt8.toNat_inj.1 (by have:=mt UInt8.lt_iff_toNat_lt.2 h1;have:=mt UInt8.lt_iff_toNat_lt.2 h2;omega)
    simp[ih,this]
def cmpL (a b:List UInt8):Int:=Lib.compareBytes (Lb.fold a) (Lb.fold b)
set_option maxHeartbeats 400000 in
theorem same_any (a b:List UInt8) (w:World) (ha:a.length<=1000000) (hb:b.length<=1000000) :
  Calls Tryz.prog 39 #[S a,S b] w fun e w'=>e=.returned (.bool (Lb.fold a == Lb.fold b))/\Below w.heap.size w w':=by
 go_enter Tryz.func39,Tryz.ntmps39
 go_wp2_with fail
 refine (fold_any a _ ha).mono ?_;rintro e w1 ⟨rfl,hb1⟩;go_wp2_with fail
 refine (fold_any b _ hb).mono ?_;rintro e w2 ⟨rfl,hb2⟩;go_wp2_with fail
 go_ret
 exact⟨rfl,hb1.trans (hb2.mono hb1.size)⟩
set_option maxHeartbeats 400000 in
theorem compare_any (a b:List UInt8) (w:World) (ha:a.length<=1000000) (hb:b.length<=1000000) :
  Calls Tryz.prog 65 #[S a,S b] w fun e w'=>e=.returned (.int .i64 (cmpL a b))/\Below w.heap.size w w':=by
 go_enter Tryz.func65,Tryz.ntmps65
 go_wp2_with fail
 refine (fold_any a _ ha).mono ?_;rintro e w1 ⟨rfl,hb1⟩;go_wp2_with fail
 refine (fold_any b _ hb).mono ?_;rintro e w2 ⟨rfl,hb2⟩;go_wp2_with fail
 refine (Tryz.strings_Compare _ _ _).mono ?_;rintro e w3 ⟨rfl,rfl⟩;go_wp2_with fail
 go_ret
 exact⟨rfl,hb1.trans (hb2.mono hb1.size)⟩
set_option maxHeartbeats 400000 in
theorem refOrder_any (a b:List UInt8) (w:World) :
  Calls Tryz.prog 125 #[S a,S b] w fun e w'=>e=.returned (.int .i64 (Lib.compareBytes a b))/\w=w':=by
 have h1:=less_cmp a b;have h2:(a == b)=decide (Lib.compareBytes a b=0):=by rw[Bool.eq_iff_iff];simp[cmp_eq_zero]
 rcases cmp_range a b with h|h|h
 all_goals
  rw[h] at h1 h2 ⊢
  go_enter Tryz.func125,Tryz.ntmps125
  go_wp2
  go_ret
  exact⟨rfl,rfl⟩
set_option maxHeartbeats 400000 in
theorem refCompare_any (a b:List UInt8) (w:World) (ha:a.length<=1000000) (hb:b.length<=1000000) :
  Calls Tryz.prog 122 #[S a,S b] w fun e w'=>e=.returned (.int .i64 (cmpL a b))/\Below w.heap.size w w':=by
 go_enter Tryz.func122,Tryz.ntmps122
 go_wp2_with fail
 refine (refFold_any a _ ha).mono ?_;rintro e w1 ⟨rfl,hb1⟩;go_wp2_with fail
 refine (refFold_any b _ hb).mono ?_;rintro e w2 ⟨rfl,hb2⟩;go_wp2_with fail
 refine (refOrder_any _ _ _).mono ?_;rintro e w3 ⟨rfl,rfl⟩;go_wp2_with fail
 go_ret
 exact⟨rfl,hb1.trans (hb2.mono hb1.size)⟩
set_option maxHeartbeats 400000 in
theorem refCheck_any (s:List UInt8) (w:World) (hs:s.length<=1000000) :
  Calls Tryz.prog 97 #[S s] w fun e w'=>e=.returned (.int .i64 (Lb.check s.length))/\w=w':=by
 go_enter Tryz.func97,Tryz.ntmps97
 go_wp2
 all_goals go_ret
 all_goals refine⟨ret_int ?_,rfl⟩
 ·have h:s.isEmpty=true:=by assumption
  simp at h;simp[h,Lb.check]
 ·have h:s.isEmpty=false:=by assumption
  have h2:(63:Int)<s.length:=by assumption
  unfold Lb.check;rw[if_neg (by omega),if_pos (by omega)]
 ·have h:s.isEmpty=false:=by assumption
  have h2:(s.length:Int)<=63:=by assumption
  have:s≠[]:=by simpa using h
  have:s.length≠0:=by simpa using this
  unfold Lb.check;rw[if_neg (by omega),if_neg (by omega)]
def SpP (w:World) (c:UInt8) (s:List UInt8) (e:Ending) (w':World):Prop:=e=.returned (.bool (decide (c∈s)))/\w=w'
end Go.Proofs.YtgmbefolgppmdaaGreat
end
section
namespace Go.Proofs.YtgmbefolgppmdaaGreat
open Go.RowKit Go.Shelf
set_option maxRecDepth 100000
def bareOf (dots:Bool):List UInt8:=if dots then [] else [46]
def OctI (w:World) (s:List UInt8) (dots:Bool) (v i:Value) (wr:World):Prop :=
 ∃(out:List UInt8) (k:Nat),k<=s.length/\Lb.Ahead (bareOf dots) s out (s.drop k)/\v=S out/\i=.int .i64 k/\out.length<=k/\Below w.heap.size w wr
theorem OctI.mk {w:World} {s:List UInt8} {dots:Bool} {wr:World} (out:List UInt8) (k:Nat) {n:Int} {l:List UInt8} (hn:n=k) (hl:l=out) (h1:k<=s.length) (h2:Lb.Ahead (bareOf dots) s out (s.drop k)) (h3:out.length<=k) (h4:Below w.heap.size w wr) :
  OctI w s dots (S l) (.int .i64 n) wr:=by subst hn;subst hl;exact⟨l,k,h1,h2,rfl,rfl,h3,h4⟩
def OctP (w:World) (s:List UInt8) (dots:Bool) (e:Ending) (w':World):Prop:=e=.returned (.tuple #[S (Lb.unesc (bareOf dots) s).1,.int .i64 (Lb.unesc (bareOf dots) s).2])/\Below w.heap.size w w'
theorem OctP.mk {w w':World} {s:List UInt8} {dots:Bool} (l:List UInt8) (z:Int) (h:Lb.unesc (bareOf dots) s=(l,z)) (hb:Below w.heap.size w w'):OctP w s dots (.returned (.tuple #[S l,.int .i64 z])) w':=by
 unfold OctP;rw[h];exact⟨rfl,hb⟩
end Go.Proofs.YtgmbefolgppmdaaGreat
end
section
namespace Go.Proofs.YtgmbefolgppmdaaGreat
open Go.RowKit Go.Shelf
set_option maxRecDepth 100000
def Row (R:Nat->Prop) (e:TypeId) (sz:Nat) (v:Value) (n:Nat) (xs:List Value) (W:World):Prop:=W.ownsRow 0 e sz v n xs/\∀g,v.ownBlock=some g->R g
theorem Row.nil (R:Nat->Prop) (e:TypeId) (sz:Nat) (W:World):Row R e sz (.slice none 0 0) 0 [] W:=⟨World.ownsRow_nil W 0 e sz,fun g h=>by simp[Value.ownBlock] at h⟩
theorem Row.mono {R R':Nat->Prop} {e sz v n xs W} (h:Row R e sz v n xs W) (hr:∀g,R g->R' g):Row R' e sz v n xs W:=⟨h.1,fun g hg=>hr g (h.2 g hg)⟩
theorem Row.kept {R e sz v n xs} {W W':World} (h:Row R e sz v n xs W) (hk:∀g c t f,v.ownBlock=some g->W.heap[g]? = some (.cells c t f)->W'.heap[g]? = some (.cells c t f)):Row R e sz v n xs W':=by
 obtain⟨⟨hl,ho⟩,hr⟩:=h;refine⟨⟨hl,?_⟩,hr⟩;rcases ho with hn|⟨g,cap,cur,hv,hb,hg,r⟩
 ·exact .inl hn
 ·exact .inr ⟨g,cap,cur,hv,hb,hk g _ _ _ (by rw[hv];rfl) hg,r⟩
theorem Row.below {R e sz v n xs} {W W':World} (h:Row R e sz v n xs W) (hb:Below W.heap.size W W'):Row R e sz v n xs W':=h.kept fun g c t f _ hg=>CellsKept.below hb g c t f hg
theorem Row.alloc {R e sz v n xs} {W:World} (h:Row R e sz v n xs W) (o:Obj):Row R e sz v n xs (W.alloc o):=h.kept fun g c t f _ hg=>CellsKept.alloc W o g c t f hg
theorem Row.put {R e sz v n xs} {W:World} (h:Row R e sz v n xs W) {l r} (hr:W.heap[l]? = some (.loop r)) (o:Obj):Row R e sz v n xs (W.putObj l o):=h.kept fun g c t f _ hg=>CellsKept.put hr o g c t f hg
theorem Row.putD {R e sz v n xs} {W:World} (h:Row R e sz v n xs W) {l d} (hr:W.heap[l]? = some (.deferred d)) (o:Obj):Row R e sz v n xs (W.putObj l o) :=
 h.kept fun g c t f _ hg=>(World.putObj_heap_other (fun e=>by rw[e,hr] at hg;cases hg)).trans hg
theorem Row.setOther {R e sz v n xs} {W:World} (h:Row R e sz v n xs W) {b o:Nat} (hb:¬R b) (u:Value):Row R e sz v n xs (W.setCell ⟨b,o,none⟩ u) :=
 h.kept fun g c t f hv hg=>(Below.heap_setCell _ _ _ _ (fun e=>hb (by have:=h.2 g hv;rw[e] at this;exact this))).trans hg
theorem Row.drew {R e sz v n xs} {W:World} (h:Row R e sz v n xs W):Row R e sz v n xs W.drew:=h.kept fun _ _ _ _ _ hg=>hg
theorem Box.grown {b t v W W' row} {R:Nat->Prop} (h:Box b t v W) (hg:W.grownBy W' row) (hr:∀g,row=some g->R g) (hb:¬R b):Box b t v W' :=
 (hg.block b h.lt (fun e=>hb (hr b e.symm))).trans h
theorem Row.notLoop {R e sz v n xs W} (h:Row R e sz v n xs W) {j:Nat} {o:Obj} (hv:v.ownBlock=some j) (ho:W.heap[j]? = some o):o.isCells=true:=by
 obtain⟨⟨_,ho'⟩,_⟩:=h;rcases ho' with⟨rfl,_⟩|⟨g,cap,cur,rfl,_,hg,_⟩
 ·simp[Value.ownBlock] at hv
 ·simp only[Value.ownBlock,Option.some.injEq] at hv;subst hv;rw[hg] at ho;cases ho;rfl
theorem Row.at {R e v n xs W} (h:Row R e 1 v n xs W) (hn:0<n):∃g cap,v=.slice (some ⟨g,0,none⟩) n cap/\R g/\n<=cap/\cap<=maxLen/\(∀j (hj:j<xs.length),W.cell? ⟨g,j,none⟩=some xs[j])/\(∀j,W.frozen? ⟨g,j,none⟩=false) /\
  (∀j u,u.oneCell'=true->Row R e 1 v n (xs.set j u) (W.setCell ⟨g,j,none⟩ u)):=by
 obtain⟨⟨hl,ho⟩,hr⟩:=h;rcases ho with⟨rfl,rfl⟩|⟨g,cap,cur,rfl,_,hg,h1,h2,h3,h4⟩
 ·omega
 ·rw[Nat.mul_one] at h4 hl h3
  refine⟨g,cap,rfl,hr g rfl,h1,h2,fun j hj=>?_,fun j=>?_,fun j u _=>?_⟩
  ·rw[cell_of_row W g j _ _ _ hg]
   have:=congrArg (fun l=>l[j]?) h4
   simp only[List.getElem?_take,show j<n by omega,if_true,zN hj] at this
   simpa using this
  ·simp[World.frozen?,hg]
  ·refine⟨⟨by simpa using hl,.inr ⟨g,cap,cur.setIfInBounds j u,rfl,by omega,?_,h1,h2,by simpa using h3,?_⟩⟩,hr⟩
   ·simp[World.setCell,Array.getElem?_modify,hg]
   ·rw[Nat.mul_one,Array.toList_setIfInBounds,List.take_set,h4]
theorem Row.form {R e sz v n xs W} (h:Row R e sz v n xs W):∃a cap,v=.slice a n cap:=by
 obtain⟨⟨_,ho⟩,_⟩:=h;rcases ho with⟨rfl,rfl⟩|⟨g,cap,cur,rfl,_⟩
 ·exact⟨_,_,rfl⟩
 ·exact⟨_,_,rfl⟩
theorem Row.keepsOthers {R e sz v n xs} {W W':World} (h:Row R e sz v n xs W) (hg:W.grownBy W' v.ownBlock):KeepsOthers W W':=KeepsOthers.of_grownBy hg fun _ _ hj ho=>h.notLoop hj ho
section
variable {F:Fence} {n:Nat} {P:Program}
theorem append_in (R:Nat->Prop) {ops:Array Oper} {rest:List Oper} {o:Oper} {a:Act} {w:World} {Q:Exit->Act->World->Prop}
  (hg:o.guard=none) (s x:Operand) (t:TypeId) (hop:o.op=Op.call { callee:=Callee.builtin Builtin.append,args:=#[s,x],argTypes:=#[t,t] })
  (e:TypeId) (i:TypeInfo) (z:Value) (sz bytes:Nat) (h1:P.underlying t=some (.slice e)) (h2:P.info? e=some i) (h3:i.zero=some z) (h4:i.size=sz) (h5:i.bytes=bytes) (h6:z.cells.size=sz) (h7:0<sz)
  (v:Value) (k:Nat) (xs:List Value) (hs:a.eval s=v) (hrow:Row R e sz v k xs w) (ad:Addr) (m c:Nat) (news:List Value) (hx:a.eval x=.slice (some ad) m c) (hn:news.length=m*sz)
  (hc:∀j u,news[j]? = some u->w.cell? (ad.add j)=some u) (h1c:∀u∈news,u.oneCell'=true) (b1:k+m<=maxLen) (b2:(k+m)*bytes<=140737488355328) (hR:R w.heap.size)
  (hK:∀v' w',Row R e sz v' (k+m) (xs++news) w'->w.grownBy w' v.ownBlock->(v'=.slice none 0 0 ↔ v=.slice none 0 0/\m=0)->wpListIn F n P ops Q rest (a.put o.dst v') w') :
  wpListIn F n P ops Q (o::rest) a w:=by
 refine wpListIn_plain hg fun K hK'=>?_
 obtain⟨v',w',hrun,r1,r2,r3,r4⟩:=run_append_own_at (P:=P) (w:=w) 0 t o.type e i z sz bytes h1 h2 h3 h4 h5 h6 h7 v k xs hrow.1 ad m c news hn hc h1c b1 b2 (Nat.zero_le _);unfold Oper.wpIn;refine⟨?_,?_⟩
 ·simp[Oper.about,hop,resolve,Target.leads,Sem.run_pure]
 ·rw[Oper.semAt_plain F _ _ (by rw[hop];intro c hc';cases hc')]
  simp[execOp,hop,resolve,invoke,builtin,hs,hx,hrun,Result.andThen];refine hK' _ _ (hK v' w' ⟨r1,fun g hg'=>?_⟩ r2 r3)
  rcases r4 with r4|r4
  ·rw[r4] at hg';exact hrow.2 g hg'
  ·rw[r4] at hg';cases hg';exact hR
end
def RdStrs (v:Value) (l:List (List UInt8)) (W:World):Prop :=
 (v=.slice none 0 0/\l=[])\/∃g off cap,v=.slice (some ⟨g,off,none⟩) l.length cap/\l.length<=cap/\cap<=maxLen/\g<W.heap.size/\∀j (h:j<l.length),W.cell? ⟨g,off+j,none⟩=some (S l[j])
theorem RdStrs.below {v l} {W W':World} (h:RdStrs v l W) (hb:Below W.heap.size W W'):RdStrs v l W':=by
 rcases h with h|⟨g,off,cap,h1,h2,h2',h3,h4⟩
 ·exact .inl h
 ·exact .inr ⟨g,off,cap,h1,h2,h2',by have:=hb.size;omega,fun j hj=>(hb.cell (p:=⟨g,off+j,none⟩) h3).trans (h4 j hj)⟩
theorem Row.strs {R e v l W} (h:Row R e 1 v l.length (l.map S) W):RdStrs v l W:=by
 obtain⟨⟨hl,ho⟩,_⟩:=h;rcases ho with⟨rfl,h0⟩|⟨g,cap,cur,rfl,_,hg,h1,h2,h3,h4⟩
 ·exact .inl ⟨rfl,by simpa using h0⟩
 ·refine .inr ⟨g,0,cap,rfl,h1,h2,(Array.getElem?_eq_some_iff.1 hg).1,fun j hj=>?_⟩
  rw[Nat.zero_add,cell_of_row W g j _ _ _ hg];have:=congrArg (fun l=>l[j]?) h4
  simp only[List.getElem?_take,List.getElem?_map,Nat.mul_one,hj,if_true,zN,Option.map_some] at this;simpa using this
end Go.Proofs.YtgmbefolgppmdaaGreat
end
section
namespace Go.Proofs.YtgmbefolgppmdaaGreat.Lb
def splitF (cur:List UInt8):List UInt8->Option (List (List UInt8))
 | []=>some [cur]
 | c::r=>if c=46 then (splitF [] r).map (cur::·)
  else if c=92 then (match r with
   | []=>none
   | d::r=>splitF (cur++[92,d]) r)
  else splitF (cur++[c]) r
def split (l:List UInt8):Option (List (List UInt8)):=splitF [] l
def SpI (s:List UInt8) (parts:List (List UInt8)) (fr:Nat) (taken:Bool) (k:Nat):Prop :=
 fr<=k/\k<=s.length/\(taken=false->split s=(splitF ((s.drop fr).take (k-fr)) (s.drop k)).map (parts++·)) /\
  (taken=true->fr+1<=k/\s[k-1]? = some 92/\split s=(splitF ((s.drop fr).take (k-1-fr)) (92::s.drop k)).map (parts++·))
theorem SpI.start (s:List UInt8):SpI s [] 0 false 0 :=
 ⟨by omega,by omega,fun _=>by simp[split],fun h=>by cases h⟩
theorem take_snoc (s:List UInt8) (fr k:Nat) (h:k<s.length) (hf:fr<=k):(s.drop fr).take (k+1-fr)=(s.drop fr).take (k-fr)++[s[k]]:=by
 rw[show k+1-fr=(k-fr)+1 by omega,Zx (by simp;omega)]
 congr 2
 simp[List.getElem_drop];congr 1;omega
theorem SpI.plain {s parts fr k} (h:SpI s parts fr false k) (hk:k<s.length) (h1:s[k]≠92) (h2:s[k]≠46):SpI s parts fr false (k+1):=by
 obtain⟨a,b,c,_⟩:=h;refine⟨by omega,by omega,fun _=>?_,fun h=>by cases h⟩
 rw[c rfl,Zy hk,splitF.eq_def];simp only[h1,h2,if_false];rw[take_snoc s fr k hk a]
theorem SpI.stroke {s parts fr k} (h:SpI s parts fr false k) (hk:k<s.length) (h1:s[k]=92):SpI s parts fr true (k+1):=by
 obtain⟨a,b,c,_⟩:=h;refine⟨by omega,by omega,fun h=>(by cases h),fun _=>⟨by omega,by simp[hk,h1],?_⟩⟩
 rw[c rfl,Zy hk,h1];rfl
theorem SpI.taken {s parts fr k} (h:SpI s parts fr true k) (hk:k<s.length):SpI s parts fr false (k+1):=by
 obtain⟨a,b,_,d⟩:=h;obtain⟨d1,d0,d2⟩:=d rfl;refine⟨by omega,by omega,fun _=>?_,fun h=>by cases h⟩
 rw[d2,Zy hk,splitF.eq_def];simp only[show (92:UInt8)≠46 by decide,if_false,if_true]
 have h92:s[k-1]'(by omega)=92:=by
  have:=zN (l:=s) (i:=k-1) (by omega);rw[this] at d0;exact Option.some.inj d0
 have e1:=take_snoc s fr k hk (by omega)
 have e2:=take_snoc s fr (k-1) (by omega) (by omega)
 rw[show k-1+1-fr=k-fr by omega,h92] at e2
 rw[e1,e2,List.append_assoc];rfl
theorem SpI.fail {s parts fr} (h:SpI s parts fr true s.length):split s=none:=by
 obtain⟨_,_,_,d⟩:=h;rw[(d rfl).2.2,List.drop_length];rfl
theorem SpI.done {s parts fr} (h:SpI s parts fr false s.length):split s=some (parts++[s.drop fr]):=by
 obtain⟨a,_,c,_⟩:=h;rw[c rfl,List.drop_length,List.take_of_length_le (by simp)];rfl
end Go.Proofs.YtgmbefolgppmdaaGreat.Lb
end
