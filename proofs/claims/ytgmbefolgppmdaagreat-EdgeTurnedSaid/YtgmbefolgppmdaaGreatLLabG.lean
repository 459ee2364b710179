/- label.Split. -/
import Derived.Test.YtgmbefolgppmdaaGreatLBase
import Derived.Test.YtgmbefolgppmdaaGreatLAli
import Derived.Deep.QuietTactic
import Derived.BigQuiet
import Derived.TacticsInMore
import Derived.LoopIn
import Derived.Test.YtgmbefolgppmdaaGreatLReg
section
namespace Go.Proofs.YtgmbefolgppmdaaGreat
open Go.RowKit Go.Shelf
set_option maxRecDepth 100000
attribute [local go_sem] Oper.semAt_some
theorem Tryz.info_str:(Tryz.prog.info? 9).map (fun i=>(i.zero,i.size,i.bytes))=some (some (.string ⟨#[]⟩),1,16):=by kernel_rfl
def SpR (B:Nat) (g:Nat):Prop:=g=B+1\/B+8<=g
structure SpM (B:Nat) (w:World) (s:List UInt8) (parts:List (List UInt8)) (fr:Nat) (taken:Bool) (W:World):Prop where
 bs:Box B 9 (S s) W
 row:∃v,Box (B+2) 37 v W/\Row (SpR B) 9 1 v parts.length (parts.map S) W
 fr:Box (B+3) 3 (.int .i64 fr) W
 tk:Box (B+4) 4 (.bool taken) W
 it:Box (B+5) 9 (S s) W
 below:Below B w W
 size:B+6<=W.heap.size
theorem SpM.put {B w s parts fr taken L W} (h:SpM B w s parts fr taken W) (hL:B<=L) {r:Loop} (hr:W.heap[L]? = some (.loop r)) (o:Obj):SpM B w s parts fr taken (W.putObj L o):=by
 obtain⟨v,h1,h2⟩:=h.row;exact⟨h.bs.put hr o,⟨v,h1.put hr o,h2.put hr o⟩,h.fr.put hr o,h.tk.put hr o,h.it.put hr o,below_put h.below hL hr (by have:=h.size;omega) o,by simpa using h.size⟩
theorem SpM.alloc {B w s parts fr taken W} (h:SpM B w s parts fr taken W) (o:Obj):SpM B w s parts fr taken (W.alloc o):=by
 obtain⟨v,h1,h2⟩:=h.row;exact⟨h.bs.alloc o,⟨v,h1.alloc o,h2.alloc o⟩,h.fr.alloc o,h.tk.alloc o,h.it.alloc o,h.below.alloc (by have:=h.size;omega) o,by have:=h.size;simp;omega⟩
def SplI (B:Nat) (w:World) (s:List UInt8) (k:Nat) (W:World):Prop:=∃parts fr taken,Lb.SpI s parts fr taken k/\parts.length<=k/\SpM B w s parts fr taken W
theorem SplI.put {B w s L} (hL:B<=L) (k:Nat) (A:World) (r:Loop) (o:Obj) (h:SplI B w s k A) (hr:A.heap[L]? = some (.loop r)):SplI B w s k (A.putObj L o):=by
 obtain⟨parts,fr,taken,h1,h2,h3⟩:=h;exact⟨parts,fr,taken,h1,h2,h3.put hL hr o⟩
def SplitR (s:List UInt8) (v:Value) (z:Int) (W:World):Prop:=match Lb.split s with
 | some parts=>z=0/\RdStrs v parts W
 | none=>z=2/\v=.slice none 0 0
end Go.Proofs.YtgmbefolgppmdaaGreat
end
section
namespace Go.Proofs.YtgmbefolgppmdaaGreat
open Go.RowKit Go.Shelf
set_option maxRecDepth 100000
def RspI (w:World) (s:List UInt8) (v i:Value) (W:World):Prop :=
 ∃(ps:List (List UInt8)) (cur:List UInt8) (k:Nat),k<=s.length/\i=.int .i64 k/\ps.length<=k/\cur.length<=k/\Lb.split s=(Lb.splitF cur (s.drop k)).map (ps++·) /\
  Row (fun g=>w.heap.size<=g) 9 1 v (ps.length+1) ((ps++[cur]).map S) W/\Below w.heap.size w W
theorem set_last (ps:List (List UInt8)) (cur x:List UInt8):((ps++[cur]).map S).set ps.length (S x)=(ps++[x]).map S:=by
 simp
theorem RspI.step {w wr:World} {s:List UInt8} {ps:List (List UInt8)} {cur x:List UInt8} {g cap k:Nat} (d:Nat) (hb:Below w.heap.size w wr)
  (hr:Row (fun g=>w.heap.size<=g) 9 1 (.slice (some ⟨g,0,none⟩) (ps.length+1) cap) (ps.length+1) (((ps++[cur]).map S).set ps.length (S x)) (wr.setCell ⟨g,ps.length,none⟩ (S x)).drew)
  (hk:k+d<=s.length) (hx:x.length<=k+d) (hpl:ps.length<=k) (_:0<=k) (hs:Lb.split s=(Lb.splitF x (s.drop (k+d))).map (ps++·)) :
  RspI w s (.slice (some ⟨g,0,none⟩) (ps.length+1) cap) (.int .i64 ((k:Int)+(d:Nat))) (wr.setCell ⟨g,ps.length,none⟩ (S x)).drew:=by
 rw[set_last] at hr;exact⟨ps,x,k+d,hk,by go_num,by omega,hx,hs,hr,(hb.setCell (p:=⟨g,ps.length,none⟩) (hr.2 g rfl) _).drew⟩
end Go.Proofs.YtgmbefolgppmdaaGreat
end
section
namespace Go.Proofs.YtgmbefolgppmdaaGreat.Lb
end Go.Proofs.YtgmbefolgppmdaaGreat.Lb
end
section
namespace Go.Proofs.YtgmbefolgppmdaaGreat
open Go.RowKit Go.Shelf
set_option maxRecDepth 100000
theorem fold_length (l:List UInt8):(Lb.fold l).length=l.length:=by simp[Lb.fold]
theorem Z5 {w w1 w2:World} (h:Below w.heap.size w w1) (k:Below w1.heap.size w1 w2):Below w.heap.size w w2:=h.trans (k.mono h.size)
def Lb.jn:List (List UInt8)->List UInt8
 | []=>[]
 | x::r=>Lb.text x++r.flatMap fun y=>46::Lb.text y
theorem zG {W:World} {p:Addr} {v:Value} (h:W.cell? p=some v):p.block<W.heap.size:=by
 rcases Nat.lt_or_ge p.block W.heap.size with h'|h'
 ·exact h'
 ·simp[World.cell?,Array.getElem?_eq_none h'] at h
end Go.Proofs.YtgmbefolgppmdaaGreat
end
section
namespace Go.Proofs.YtgmbefolgppmdaaGreat
open Go.RowKit Go.Shelf
namespace Nm
def fold (n:List (List UInt8)):List (List UInt8):=n.map Lb.fold
def len:List (List UInt8)->Nat
 | []=>1
 | l::r=>1+l.length+len r
def check0:List (List UInt8)->Int
 | []=>0
 | l::r=>if Lb.check l.length=0 then check0 r else Lb.check l.length
def check (n:List (List UInt8)):Int:=if check0 n=0 then (if 255<len n then 3 else 0) else check0 n
def words:List (List UInt8)->List UInt8
 | []=>[]
 | l::r=>Lb.text l++46::words r
def text (n:List (List UInt8)):List UInt8:=if n=[] then [46] else words n
def same (a b:List (List UInt8)):Bool:=fold a == fold b
def under (n z:List (List UInt8)):Bool:=decide (z.length<=n.length)&&same (n.drop (n.length-z.length)) z
def cmpR:List (List UInt8)->List (List UInt8)->Int
 | [],[]=>0
 | [],_::_=>-1
 | _::_,[]=>1
 | x::a,y::b=>if cmpL x y=0 then cmpR a b else cmpL x y
def cmp (a b:List (List UInt8)):Int:=cmpR a.reverse b.reverse
def common (a b:List (List UInt8)):List (List UInt8):=match a with
 | []=>[]
 | x::r=>if under b (x::r) then x::r else common r b
def wild (n:List (List UInt8)):Bool:=match n with
 | []=>false
 | x::_=>x == [42]
def swap (n f t:List (List UInt8)):List (List UInt8) × Int :=
 if under n f=true then (if check (n.take (n.length-f.length)++t)=0 then (n.take (n.length-f.length)++t,0) else ([],7)) else ([],12)
def partsF:List (List UInt8)->Except Int (List (List UInt8) × Bool)
 | []=>.ok ([],false)
 | p::r=>if p=[]/\r=[] then .ok ([],true) else if (Lb.parse p).2=0 then (partsF r).map (fun x=>((Lb.parse p).1::x.1,x.2)) else .error (Lb.parse p).2
def parts (s:List UInt8):Except Int (List (List UInt8) × Bool):=match Lb.split s with
 | none=>.error 2
 | some l=>partsF l
def fin (n:List (List UInt8)):List (List UInt8) × Int:=if check n=0 then (n,0) else ([],check n)
def parse (s:List UInt8) (origin:List (List UInt8)):List (List UInt8) × Int :=
 if s=[64] then (origin,0) else if s=[46] then ([],0) else if s=[] then ([],8)
 else match parts s with
  | .error e=>([],e)
  | .ok (n,true)=>fin n
  | .ok (n,false)=>fin (n++origin)
def parent (n:List (List UInt8)):List (List UInt8):=n.drop 1
def few (n:List (List UInt8)):Bool:=decide (n.length<=140)&&n.all fun l=>decide (l.length<=100)
theorem len_le (n:List (List UInt8)):∀(b:Nat),(∀x∈n,x.length<=b)->len n<=1+n.length*(b+1):=by
 induction n with
 | nil=>intro b _;simp[len]
 | cons x r ih =>
  intro b h;have h1:=ih b (fun y hy=>h y (Zv _ hy))
  have h2:=h x (Zu ..);simp only[len,Ze,Nat.add_mul];omega
end Nm
def NB (n:List (List UInt8)):Prop:=n.length<=1000/\∀x∈n,x.length<=1000
theorem NB.get {n k} (h:NB n) (hk:k<n.length):n[k].length<=1000:=h.2 _ (List.getElem_mem hk)
theorem NB.drop {n} (h:NB n) (k:Nat):NB (n.drop k):=⟨by have:=h.1;simp;omega,fun x hx=>h.2 x (List.mem_of_mem_drop hx)⟩
theorem NB.take {n} (h:NB n) (k:Nat):NB (n.take k):=⟨by have:=h.1;simp;omega,fun x hx=>h.2 x (List.mem_of_mem_take hx)⟩
theorem NB.few {n} (h:Nm.few n=true):NB n:=by
 unfold Nm.few at h;simp only[Bool.and_eq_true,decide_eq_true_eq,List.all_eq_true] at h;exact⟨by omega,fun x hx=>by have:=h.2 x hx;omega⟩
theorem NB.fold {n} (h:NB n):NB (Nm.fold n):=⟨by simpa[Nm.fold] using h.1,fun x hx=>by
 simp only[Nm.fold,List.mem_map] at hx;obtain⟨y,hy,rfl⟩:=hx;rw[fold_length];exact h.2 y hy⟩
theorem NB.len {n} (h:NB n):Nm.len n<=1001001:=by
 have:=Nm.len_le n 1000 h.2
 have h1:=h.1;have:n.length*1001<=1000*1001:=Nat.mul_le_mul_right _ h1
 omega
def Rd (v:Value) (l:List (List UInt8)) (W:World):Prop :=
 ∃o cap,v=.slice o l.length cap/\l.length<=cap/\cap<=maxLen/\(o=none->cap=0)/\∀j (h:j<l.length),∃a,o=some a/\W.cell? (a.add j)=some (S l[j])
theorem Rd.kept {v l} {W W':World} (h:Rd v l W) (hk:∀p:Addr,p.block<W.heap.size->W'.cell? p=W.cell? p):Rd v l W':=by
 obtain⟨o,cap,h1,h2,h3,h4,h5⟩:=h;refine⟨o,cap,h1,h2,h3,h4,fun j hj=>?_⟩
 obtain⟨a,ha,hc⟩:=h5 j hj;exact⟨a,ha,(hk _ (zG hc)).trans hc⟩
theorem Rd.below {v l} {W W':World} (h:Rd v l W) (hb:Below W.heap.size W W'):Rd v l W':=h.kept fun _p hp=>hb.cell hp
theorem Rd.heap {v l} {W W':World} (h:Rd v l W) (hb:W'.heap=W.heap):Rd v l W':=h.kept fun p _=>by unfold World.cell?;rw[hb]
theorem Rd.nil (W:World):Rd (.slice none 0 0) [] W:=⟨none,0,rfl,by simp,by unfold maxLen;omega,fun _=>rfl,fun j h=>by simp at h⟩
theorem Rd.of_strs {v l} {W:World} (h:RdStrs v l W):Rd v l W:=by
 rcases h with⟨rfl,rfl⟩|⟨g,off,cap,rfl,h1,h2,h3,h4⟩
 ·exact Rd.nil W
 ·refine⟨_,_,rfl,h1,h2,(fun h=>by cases h),fun j hj=>⟨_,rfl,?_⟩⟩
  have:=h4 j hj
  unfold Addr.add;split
  ·rename_i e;subst e;exact this
  ·exact this
theorem add_add (a:Addr) (i j:Nat) (h:0<i):(a.add i).add j=a.add (i+j):=by
 unfold Addr.add;rw[if_neg (show ¬i=0 by omega),if_neg (show ¬i+j=0 by omega)]
 split
 ·rename_i e;subst e;rfl
 ·simp[Nat.add_assoc]
theorem add_zero' (a:Addr):a.add 0=a:=rfl
theorem add_add' (a:Addr) (i j:Nat):(a.add i).add j=a.add (i+j):=by
 rcases Nat.eq_zero_or_pos i with rfl|h
 ·rw[add_zero',Nat.zero_add]
 ·exact add_add a i j h
theorem Rd.sub {o l cap} {W:World} (h:Rd (.slice o l.length cap) l W) (i j c:Nat) (hi:i<=j) (hj:j<=l.length) (hc:c<=cap-i) (hcl:j-i<=c) (o':Option Addr) (ho:o'=o.map (·.add i)):Rd (.slice o' (j-i) c) ((l.drop i).take (j-i)) W:=by
 obtain⟨o1,cap1,h1,h2,h3,h4,h5⟩:=h;cases h1;have hl:((l.drop i).take (j-i)).length=j-i:=by simp;omega
 refine⟨o',c,by rw[hl],by rw[hl];omega,by omega,fun e=>?_,fun k hk=>?_⟩
 ·rw[ho] at e
  have:o=none:=by cases o with
   | none=>rfl
   | some a=>cases e
  have:=h4 this;omega
 ·rw[hl] at hk
  obtain⟨a,rfl,hc⟩:=h5 (i+k) (by omega)
  refine⟨a.add i,by rw[ho];rfl,?_⟩
  rw[add_add',hc];simp
theorem Rd.empty (o:Option Addr) (cap:Nat) (hc:cap=0) (W:World):Rd (.slice o 0 cap) [] W:=⟨o,cap,rfl,by simp,by unfold maxLen;omega,fun _=>hc,fun j h=>by simp at h⟩
theorem Rd.tail {o l cap} {W:World} (h:Rd (.slice o l.length cap) l W) (i:Nat) (hi:i<=l.length):Rd (.slice (o.map (·.add i)) (l.length-i) (cap-i)) (l.drop i) W:=by
 have h':=h.sub i l.length (cap-i) hi (Zh _) (Zh _) (by obtain⟨_,_,e,h1,_⟩:=h;cases e;omega) _ rfl
 rwa [List.take_of_length_le (by simp)] at h'
theorem Rd.tail0 {o l cap} {W:World} (h:Rd (.slice o l.length cap) l W) (i:Nat) (hi:i<=l.length) (hc:cap=i):Rd (.slice o (l.length-i) 0) (l.drop i) W:=by
 obtain⟨_,_,e,h1,_⟩:=h;cases e;rw[show l.length-i=0 by omega,Zz (by omega)]
 exact Rd.empty _ _ rfl _
end Go.Proofs.YtgmbefolgppmdaaGreat
end
section
namespace Go.Proofs.YtgmbefolgppmdaaGreat
open Go.RowKit Go.Shelf
set_option maxRecDepth 100000
abbrev Gives (v:Value) (w:World) (e:Ending) (w':World):Prop:=e=.returned v/\Below w.heap.size w w'
def Nm.fewTo (n:List (List UInt8)) (k:Nat):Prop:=k<=n.length/\∀j (h:j<n.length),j<k->n[j].length<=100
theorem Nm.fewTo.step {n k} (h:Nm.fewTo n k) (hk:k<n.length) (hl:n[k].length<=100):Nm.fewTo n (k+1):=by
 refine⟨hk,fun j h' hj=>?_⟩
 by_cases e:j<k
 ·exact h.2 j h' e
 ·obtain rfl:j=k:=by omega
  exact hl
theorem Nm.fewTo.done {n k} (h:Nm.fewTo n k) (hk:¬k<n.length) (h1:n.length<=140):Nm.few n=true:=by
 unfold Nm.few;simp only[Bool.and_eq_true,decide_eq_true_eq,List.all_eq_true];refine⟨h1,fun x hx=>?_⟩
 obtain⟨j,hj,rfl⟩:=List.mem_iff_getElem.1 hx;exact h.2 j hj (by have:=h.1;omega)
theorem Nm.few_long {n} (h:140<n.length):Nm.few n=false:=by unfold Nm.few;simp;omega
theorem Nm.few_not {n:List (List UInt8)} {k} (hk:k<n.length) (h:100<n[k].length):Nm.few n=false:=by
 rw[Bool.eq_false_iff];intro hf;unfold Nm.few at hf;simp only[Bool.and_eq_true,decide_eq_true_eq,List.all_eq_true] at hf;have:=hf.2 _ (List.getElem_mem hk);omega
set_option maxHeartbeats 1000000 in
theorem few_any (v:Value) (n:List (List UInt8)) (w:World) (hv:Rd v n w) :
  Calls Tryz.prog 69 #[v] w (Gives (.bool (Nm.few n)) w):=by
 have HV:=Hd hv;obtain⟨o,cap,rfl,h1,h2,h3,h4⟩:=hv;unfold maxLen at h2;clear h3;have hcl:∀wr,Below w.heap.size w wr->∀j (h:j<n.length),∃a,o=some a/\wr.cell? (a.add j)=some (S n[j]):=fun wr hb j h=>by
  obtain⟨a,ha,hc⟩:=h4 j h;exact⟨a,ha,(hb.cell (zG hc)).trans hc⟩
 have HC:=Hd hcl;clear hcl h4;by_cases h140:140<n.length
 ·have HF:=Hd (Nm.few_long h140)
  have h140':140<(n.length:Int):=by omega
  go_enter Tryz.func69,Tryz.ntmps69
  go_wp2
  go_ret
  exact⟨by rw[HF.out];rfl,Below.refl _ _⟩
 ·have h140':(n.length:Int)<=140:=by omega
  go_enter Tryz.func69,Tryz.ntmps69
  go_wp2
  go_loopw [3] (fun i wr=>∃k:Nat,Nm.fewTo n k/\i=.int .i64 k/\Below w.heap.size w wr) (fun i _=>n.length-(intOf i).toNat)
  case atStart=>exact⟨0,⟨by omega,fun j _ h=>by omega⟩,rfl,Below.refl _ _⟩
  case round =>
   obtain⟨k,hto,rfl,hb⟩:=hrel;by_cases hlt:k<n.length
   ·obtain⟨a,rfl,e1⟩:=HC.out _ hb k hlt
    by_cases hl:n[k].length<=100
    ·have HT:=Hd (hto.step hlt hl)
     have hl':(n[k].length:Int)<=100:=by omega
     clear hto hl;go_wp2
     exact⟨⟨k+1,HT.out,by go_num,hb⟩,by simp[intOf];omega⟩
    ·have HF:=Hd (Nm.few_not hlt (by omega))
     have hl':100<(n[k].length:Int):=by omega
     clear hto hl;go_wp2
     go_ret
     exact⟨by rw[HF.out];rfl,hb⟩
   ·have HF:=Hd (hto.done hlt (by omega))
    go_wp2
    go_ret
    exact⟨by rw[HF.out];rfl,hb⟩
theorem Nm.same_len {a b:List (List UInt8)} (h:a.length≠b.length):Nm.same a b=false:=by
 rw[Bool.eq_false_iff];intro hs;apply h;have:=congrArg List.length (eq_of_beq hs)
 simpa[Nm.fold] using this
def Nm.sameTo (a b:List (List UInt8)) (k:Nat):Prop:=k<=a.length/\∀j (h:j<a.length) (h':j<b.length),j<k->Lb.fold a[j]=Lb.fold b[j]
theorem Nm.sameTo.step {a b k} (h:Nm.sameTo a b k) (hk:k<a.length) (hk':k<b.length) (hl:Lb.fold a[k]=Lb.fold b[k]):Nm.sameTo a b (k+1):=by
 refine⟨hk,fun j h1 h2 hj=>?_⟩
 by_cases e:j<k
 ·exact h.2 j h1 h2 e
 ·obtain rfl:j=k:=by omega
  exact hl
theorem Nm.sameTo.done {a b k} (h:Nm.sameTo a b k) (hk:¬k<a.length) (hl:a.length=b.length):Nm.same a b=true:=by
 unfold Nm.same Nm.fold;rw[beq_iff_eq];apply List.ext_getElem (by simpa using hl)
 intro j h1 h2;simp only[Zf] at h1 h2;rw[List.getElem_map,List.getElem_map];exact h.2 j h1 h2 (by omega)
theorem Nm.same_not {a b:List (List UInt8)} {k} (hk:k<a.length) (hk':k<b.length) (hl:Lb.fold a[k]≠Lb.fold b[k]):Nm.same a b=false:=by
 rw[Bool.eq_false_iff];intro hs;apply hl;have:=eq_of_beq hs
 unfold Nm.fold at this;have h2:=congrArg (fun l=>l[k]?) this
 simpa[hk,hk'] using h2
theorem Rd.cells {o cap n} {w:World} (h:Rd (.slice o n.length cap) n w):∀wr,Below w.heap.size w wr->∀j (h:j<n.length),∃a,o=some a/\wr.cell? (a.add j)=some (S n[j]):=fun wr hb j hj=>by
 obtain⟨o',cap',he,h1,h2,h3,h4⟩:=h;cases he;obtain⟨a,ha,hc⟩:=h4 j hj;exact⟨a,ha,(hb.cell (zG hc)).trans hc⟩
theorem Rd.form {v n} {w:World} (h:Rd v n w):∃o cap,v=.slice o n.length cap/\n.length<=cap/\cap<=9223372036854775807:=by
 obtain⟨o',cap',he,h1,h2,_⟩:=h;exact⟨_,_,he,h1,by unfold maxLen at h2;omega⟩
set_option maxHeartbeats 1000000 in
theorem zC (v u:Value) (a b:List (List UInt8)) (w:World) (hv:Rd v a w) (hu:Rd u b w) (ha:NB a) (hb:NB b) :
  Calls Tryz.prog 24 #[v,u] w (Gives (.bool (Nm.same a b)) w):=by
 obtain⟨o,cap,rfl,h1,h2⟩:=hv.form;obtain⟨o',cap',rfl,h1',h2'⟩:=hu.form;have HC:=Hd hv.cells;have HD:=Hd hu.cells;have na:(a.length:Int)<=1000:=by have:=ha.1;omega
 have nb:(b.length:Int)<=1000:=by have:=hb.1;omega
 have GA:=Hd (show ∀k (h:k<a.length),a[k].length<=1000000 from fun k h=>by have:=ha.get h;omega)
 have GB:=Hd (show ∀k (h:k<b.length),b[k].length<=1000000 from fun k h=>by have:=hb.get h;omega)
 clear hv hu ha hb;by_cases hab:a.length=b.length
 ·have hab':((a.length:Int) != b.length)=false:=by simp[hab]
  have HAB:=Hd hab;clear hab;refine (zF (n:=0)).1 ?_;refine callsIn_of_wp Tryz.func24 rfl trivial ?_ rfl;simp only[Tryz.ntmps24,Zo,Ze,Zg,Nat.reduceAdd,Nat.reduceSub,Zi,Zj,Zk,Zl,Zm,Zp];gi_wp2
  gi_loopw [5] (fun i wr=>∃k:Nat,Nm.sameTo a b k/\i=.int .i64 k/\Below w.heap.size w wr) (fun i _=>a.length-(intOf i).toNat)
  case atStart=>exact⟨0,⟨by omega,fun j _ _ h=>by omega⟩,rfl,Below.refl _ _⟩
  case round =>
   obtain⟨k,hto,rfl,hb⟩:=hrel;by_cases hlt:k<a.length
   ·have hlt':k<b.length:=by have:=HAB.out;omega
    obtain⟨x,rfl,e1⟩:=HC.out _ hb k hlt;obtain⟨y,rfl,e2⟩:=HD.out _ hb k hlt';have g1:=GA.out k hlt;have g2:=GB.out k hlt';obtain⟨be,hbe⟩:=Zq ((Lb.fold a[k] == Lb.fold b[k]));gi_wp2_with fail
    refine Z8 [3,4,8,9,10] (fun w'=>w'.cell? (x.add k)=some (S a[k])/\w'.cell? (y.add k)=some (S b[k])) 11 rfl (by kernel_rfl) ?_
    intro w' hw';have hS:w'.cell? (x.add k)=some (S a[k])/\w'.cell? (y.add k)=some (S b[k]):=by subst hw';exact⟨e1,e2⟩
    have hb':Below w.heap.size w w':=by subst hw';exact hb.drew
    clear hw';refine tB 0 ?_;refine tB 1 ?_;refine tB 2 ?_;refine tB 5 ?_;refine tB 6 ?_;refine tB 7 ?_;refine tA 3 hS ?_;refine tA 8 hS ?_;refine oneH 4 (by rfl) (by kernel_rfl) (fun K hK=>?_)
    gi_wp2_with (gi_at_call 48;refine (callsIn_wide.2 (refFold_any a[k] _ g1)).mono ?_;rintro e w1 ⟨rfl,b1⟩)
    have f1:=(b1.cell (zG hS.1)).trans hS.1;have f2:=(b1.cell (zG hS.2)).trans hS.2;refine hK _ _ (fun _=>⟨f1,f2⟩) ?_
    clear hK K;refine oneH 9 (by rfl) (by kernel_rfl) (fun K hK=>?_)
    gi_wp2_with (gi_at_call 48;refine (callsIn_wide.2 (refFold_any b[k] _ g2)).mono ?_;rintro e w2 ⟨rfl,b2⟩)
    refine hK _ _ (fun _=>⟨(b2.cell (zG f1)).trans f1,(b2.cell (zG f2)).trans f2⟩) ?_
    clear hK K;have hb2:=Z5 (Z5 hb' b1) b2;refine oneH 10 (by rfl) (by kernel_rfl) (fun K hK=>?_)
    gi_wp2_with fail
    refine hK _ _ (fun _=>⟨(b2.cell (zG f1)).trans f1,(b2.cell (zG f2)).trans f2⟩) ?_
    clear hK K;refine Z9 (by kernel_rfl) ?_
    cases be with
    | true =>
     have HT:=Hd (hto.step hlt hlt' (eq_of_beq hbe));clear hto;gi_wp2_with fail
     exact⟨⟨k+1,HT.out,by go_num,hb2⟩,by simp[intOf];omega⟩
    | false =>
     have HF:=Hd (Nm.same_not hlt hlt' (by simpa using hbe))
     clear hto;gi_wp2_with fail
     go_ret
     exact⟨by rw[HF.out];rfl,hb2⟩
   ·have HF:=Hd (hto.done hlt HAB.out)
    gi_wp2
    go_ret
    exact⟨by rw[HF.out];rfl,hb⟩
 ·have hab':((a.length:Int) != b.length)=true:=by simp;omega
  have HF:=Hd (Nm.same_len hab)
  go_enter Tryz.func24,Tryz.ntmps24
  go_wp2
  go_ret
  exact⟨by rw[HF.out];rfl,Below.refl _ _⟩
end Go.Proofs.YtgmbefolgppmdaaGreat
end
section
namespace Go.Proofs.YtgmbefolgppmdaaGreat
open Go.RowKit Go.Shelf
set_option maxRecDepth 100000
set_option maxHeartbeats 1000000 in
theorem equal_any (v u:Value) (a b:List (List UInt8)) (w:World) (hv:Rd v a w) (hu:Rd u b w) (ha:NB a) (hb:NB b) :
  Calls Tryz.prog 38 #[v,u,.func (.func 39) #[] #[]] w (Gives (.bool (Nm.same a b)) w):=by
 obtain⟨o,cap,rfl,h1,h2⟩:=hv.form;obtain⟨o',cap',rfl,h1',h2'⟩:=hu.form;have HC:=Hd hv.cells;have HD:=Hd hu.cells;have na:(a.length:Int)<=1000:=by have:=ha.1;omega
 have nb:(b.length:Int)<=1000:=by have:=hb.1;omega
 have GA:=Hd (show ∀k (h:k<a.length),a[k].length<=1000000 from fun k h=>by have:=ha.get h;omega)
 have GB:=Hd (show ∀k (h:k<b.length),b[k].length<=1000000 from fun k h=>by have:=hb.get h;omega)
 clear hv hu ha hb;by_cases hab:a.length=b.length
 ·have hab':((a.length:Int) != b.length)=false:=by simp[hab]
  have HAB:=Hd hab;clear hab
  go_enter Tryz.func38,Tryz.ntmps38
  go_wp2
  go_loopw [17] (fun i wr=>∃k:Nat,Nm.sameTo a b k/\i=.int .i64 k/\Below w.heap.size w wr) (fun i _=>a.length-(intOf i).toNat)
  case atStart=>exact⟨0,⟨by omega,fun j _ _ h=>by omega⟩,rfl,Below.refl _ _⟩
  case round =>
   obtain⟨k,hto,rfl,hb⟩:=hrel;by_cases hlt:k<a.length
   ·have hlt':k<b.length:=by have:=HAB.out;omega
    obtain⟨x,rfl,e1⟩:=HC.out _ hb k hlt;obtain⟨y,rfl,e2⟩:=HD.out _ hb k hlt';have g1:=GA.out k hlt;have g2:=GB.out k hlt';obtain⟨be,hbe⟩:=Zq ((Lb.fold a[k] == Lb.fold b[k]));cases be with
    | true =>
     have HT:=Hd (hto.step hlt hlt' (eq_of_beq hbe));have HB:=Hd hbe;clear hto hbe;go_wp2_with fail
     refine (same_any a[k] b[k] _ g1 g2).mono ?_;rintro e w1 ⟨rfl,b1⟩;rw[HB.out];go_wp2_with fail
     exact⟨⟨k+1,HT.out,by go_num,Z5 hb b1⟩,by simp[intOf];omega⟩
    | false =>
     have HF:=Hd (Nm.same_not hlt hlt' (by simpa using hbe))
     have HB:=Hd hbe;clear hto hbe;go_wp2_with fail
     refine (same_any a[k] b[k] _ g1 g2).mono ?_;rintro e w1 ⟨rfl,b1⟩;rw[HB.out];go_wp2_with fail
     go_ret
     exact⟨by rw[HF.out];rfl,Z5 hb b1⟩
   ·have HF:=Hd (hto.done hlt HAB.out)
    go_wp2
    go_ret
    exact⟨by rw[HF.out];rfl,hb⟩
 ·have hab':((a.length:Int) != b.length)=true:=by simp;omega
  have HF:=Hd (Nm.same_len hab)
  go_enter Tryz.func38,Tryz.ntmps38
  go_wp2
  go_ret
  exact⟨by rw[HF.out];rfl,Below.refl _ _⟩
set_option maxHeartbeats 1000000 in
theorem nSame_any (v u:Value) (a b:List (List UInt8)) (w:World) (hv:Rd v a w) (hu:Rd u b w) (ha:NB a) (hb:NB b) :
  Calls Tryz.prog 16 #[v,u] w (Gives (.bool (Nm.same a b)) w):=by
 go_enter Tryz.func16,Tryz.ntmps16
 go_wp2_with fail
 refine (equal_any v u a b _ hv hu ha hb).mono ?_;rintro e w1 ⟨rfl,b1⟩;go_wp2_with fail
 go_ret
 exact⟨rfl,b1⟩
theorem Nm.under_le {a b:List (List UInt8)} (h:b.length<=a.length):Nm.under a b=Nm.same (a.drop (a.length-b.length)) b:=by simp[Nm.under,h]
theorem Nm.under_lt {a b:List (List UInt8)} (h:a.length<b.length):Nm.under a b=false:=by simp[Nm.under];omega
set_option maxHeartbeats 1000000 in
theorem nUnder_any (v u:Value) (a b:List (List UInt8)) (w:World) (hv:Rd v a w) (hu:Rd u b w) (ha:NB a) (hb:NB b) :
  Calls Tryz.prog 13 #[v,u] w (Gives (.bool (Nm.under a b)) w):=by
 obtain⟨o,cap,rfl,h1,h2⟩:=hv.form;obtain⟨o',cap',rfl,h1',h2'⟩:=hu.form;have na:(a.length:Int)<=1000:=by have:=ha.1;omega
 have nb:(b.length:Int)<=1000:=by have:=hb.1;omega
 have HU:=Hd hu;by_cases hab:b.length<=a.length
 ·have hab':(b.length:Int)<=a.length:=by omega
  have HU:=Hd (Nm.under_le hab);have HT0:=Hd (fun hc=>hv.tail0 (a.length-b.length) (by omega) hc)
  have HT:=Hd (hv.tail (a.length-b.length) (by omega))
  have ND:=Hd (ha.drop (a.length-b.length));clear hv hab
  go_enter Tryz.func13,Tryz.ntmps13
  go_wp2_with fail
  ·refine (nSame_any _ _ _ b _ (HT0.out (by assumption)) hu ND.out hb).mono ?_
   rintro e w1 ⟨rfl,b1⟩;rw[<-HU.out];go_wp2_with fail
   go_ret
   exact⟨rfl,b1⟩
  ·refine (nSame_any _ _ _ b _ HT.out hu ND.out hb).mono ?_
   rintro e w1 ⟨rfl,b1⟩;rw[<-HU.out];go_wp2_with fail
   go_ret
   exact⟨rfl,b1⟩
 ·have hab':(a.length:Int)<b.length:=by omega
  have HF:=Hd (Nm.under_lt (show a.length<b.length by omega))
  clear hab
  go_enter Tryz.func13,Tryz.ntmps13
  go_wp2_with fail
  go_ret
  exact⟨by rw[HF.out];rfl,Below.refl _ _⟩
end Go.Proofs.YtgmbefolgppmdaaGreat
end
section
namespace Go.Proofs.YtgmbefolgppmdaaGreat
open Go.RowKit Go.Shelf
set_option maxRecDepth 100000
attribute [local go_sem] Oper.semAt_some
theorem Nm.len_append (a b:List (List UInt8)):Nm.len (a++b)+1=Nm.len a+Nm.len b:=by
 induction a with
 | nil=>simp[Nm.len];omega
 | cons x r ih=>simp only[Zp,Nm.len];omega
theorem Nm.len_take (n:List (List UInt8)) (k:Nat) (h:k<n.length):Nm.len (n.take (k+1))=Nm.len (n.take k)+1+n[k].length:=by
 have:=Nm.len_append (n.take k) [n[k]]
 rw[<-Zx h] at this;simp only[Nm.len] at this;omega
set_option maxHeartbeats 1000000 in
theorem refLen_any (v:Value) (n:List (List UInt8)) (w:World) (hv:Rd v n w) (hn:NB n) :
  Calls Tryz.prog 98 #[v] w (Gives (.int .i64 (Nm.len n)) w):=by
 obtain⟨o,cap,rfl,h1,h2⟩:=hv.form;have HC:=Hd hv.cells;have n1:(n.length:Int)<=1000:=by have:=hn.1;omega
 have GN:=Hd (show ∀k,Nm.len (n.take k)<=1001001 from fun k=>(hn.take k).len)
 have GA:=Hd (show ∀k (h:k<n.length),n[k].length<=1000 from fun k h=>hn.get h)
 clear hv hn
 go_enter Tryz.func98,Tryz.ntmps98
 go_wp2
 go_loopw [3,4] (fun s i wr=>∃k:Nat,k<=n.length/\s=.int .i64 (Nm.len (n.take k))/\i=.int .i64 k/\Below w.heap.size w wr) (fun _ i _=>n.length-(intOf i).toNat)
 case atStart=>exact⟨0,by omega,rfl,rfl,Below.refl _ _⟩
 case round =>
  obtain⟨k,hk,rfl,rfl,hb⟩:=hrel;by_cases hlt:k<n.length
  ·obtain⟨x,rfl,e1⟩:=HC.out _ hb k hlt
   have g1:=GN.out k;have g2:=GA.out k hlt;have HT:=Hd (Nm.len_take n k hlt);go_wp2_with fail
   exact⟨⟨k+1,by omega,by rw[HT.out];go_num,by go_num,hb⟩,by simp[intOf];omega⟩
  ·obtain rfl:k=n.length:=by omega
   go_wp2_with fail
   go_ret
   exact⟨by rw[List.take_length];rfl,hb⟩
def lblY (n:List (List UInt8)) (k:Nat) (_:World) (v:Array Value) (k':Nat):Prop:=∃h:k<n.length,v=#[S (n[n.length-1-k]'(by omega))]/\k'=k+1
def lblPre (B0 b:Nat) (o:Option Addr) (cap:Nat) (n:List (List UInt8)) (W:World):Prop :=
 W.cell? ⟨b,0,none⟩=some (.slice o n.length cap)/\∀j (h:j<n.length),∃a:Addr,o=some a/\a.block<B0/\W.cell? (a.add j)=some (S n[j])
def keepsTo (B0 b:Nat) (A W:World):Prop:=sameCell b A W/\∀p:Addr,p.block<B0->W.cell? p=A.cell? p
theorem keepsTo.trans {B0 b:Nat} (A B C:World) (h:keepsTo B0 b A B) (k:keepsTo B0 b B C):keepsTo B0 b A C:=⟨sameCell.trans A B C h.1 k.1,fun p hp=>(k.2 p hp).trans (h.2 p hp)⟩
theorem keepsTo.put {B0 b L:Nat} (hL:B0<=L) (hb:b≠L) (A:World) (o:Obj):keepsTo B0 b A (A.putObj L o):=⟨sameCell.put (by omega) A o,fun p hp=>World.cell?_of_block (World.putObj_heap_other (by omega))⟩
theorem add_block (a:Addr) (j:Nat):(a.add j).block=a.block:=by unfold Addr.add;split<;>rfl
theorem lblPre.kept {B0 b o cap n A W} (h:lblPre B0 b o cap n A) (hk:keepsTo B0 b A W):lblPre B0 b o cap n W :=
 ⟨Eq.trans hk.1 h.1,fun j hj=>by obtain⟨a,h1,h2,h3⟩:=h.2 j hj;exact⟨a,h1,h2,(hk.2 _ (by rw[add_block];exact h2)).trans h3⟩⟩
def LenI (B:Nat) (w:World) (o:Option Addr) (cap:Nat) (n:List (List UInt8)) (k:Nat) (W:World):Prop :=
 k<=n.length/\Box B 3 (.int .i64 (Nm.len (n.drop (n.length-k)))) W/\Box (B+1) 38 (.slice o n.length cap) W/\Below B w W/\B+2<=W.heap.size
theorem LenI.put {B w o cap n L} (hL:B<=L) (k:Nat) (A:World) (r:Loop) (ob:Obj) (h:LenI B w o cap n k A) (hr:A.heap[L]? = some (.loop r)):LenI B w o cap n k (A.putObj L ob):=by
 obtain⟨h0,h1,h2,h3,h4⟩:=h;exact⟨h0,h1.put hr ob,h2.put hr ob,below_put h3 hL hr (by omega) ob,by simpa using h4⟩
theorem LenI.alloc {B w o cap n k W} (h:LenI B w o cap n k W) (ob:Obj):LenI B w o cap n k (W.alloc ob):=by
 obtain⟨h0,h1,h2,h3,h4⟩:=h;exact⟨h0,h1.alloc ob,h2.alloc ob,h3.alloc (by omega) ob,by simp;omega⟩
end Go.Proofs.YtgmbefolgppmdaaGreat
end
section
namespace Go.Proofs.YtgmbefolgppmdaaGreat
open Go.RowKit Go.Shelf
set_option maxRecDepth 100000
theorem Nm.check0_step {n:List (List UInt8)} {k} (h:Nm.check0 n=Nm.check0 (n.drop k)) (hk:k<n.length) (hc:Lb.check n[k].length=0):Nm.check0 n=Nm.check0 (n.drop (k+1)):=by
 rw[h,Zy hk];simp[Nm.check0,hc]
theorem Nm.check0_stop {n:List (List UInt8)} {k} (h:Nm.check0 n=Nm.check0 (n.drop k)) (hk:k<n.length) (hc:Lb.check n[k].length≠0):Nm.check n=Lb.check n[k].length:=by
 have:Nm.check0 n=Lb.check n[k].length:=by rw[h,Zy hk];simp[Nm.check0,hc]
 unfold Nm.check;rw[this,if_neg hc]
theorem Nm.check0_done {n:List (List UInt8)} (h:Nm.check0 n=Nm.check0 (n.drop n.length)):Nm.check n=if 255<Nm.len n then 3 else 0:=by
 rw[List.drop_length] at h;unfold Nm.check;rw[h];rfl
set_option maxHeartbeats 1000000 in
theorem zB (v:Value) (n:List (List UInt8)) (w:World) (hv:Rd v n w) (hn:NB n) :
  Calls Tryz.prog 70 #[v] w (Gives (.int .i64 (Nm.check n)) w):=by
 have HV:=Hd (show ∀wr,Below w.heap.size w wr->Rd v n wr from fun wr hb=>hv.below hb)
 obtain⟨o,cap,rfl,h1,h2⟩:=hv.form;have HC:=Hd hv.cells;have n1:(n.length:Int)<=1000:=by have:=hn.1;omega
 have GA:=Hd (show ∀k (h:k<n.length),n[k].length<=1000000 from fun k h=>by have:=hn.get h;omega)
 have HN:=Hd hn;clear hv hn
 go_enter Tryz.func70,Tryz.ntmps70
 go_wp2
 go_loopw [3] (fun i wr=>∃k:Nat,k<=n.length/\Nm.check0 n=Nm.check0 (n.drop k)/\i=.int .i64 k/\Below w.heap.size w wr) (fun i _=>n.length-(intOf i).toNat)
 case atStart=>exact⟨0,by omega,rfl,rfl,Below.refl _ _⟩
 case round =>
  obtain⟨k,hk,hch,rfl,hb⟩:=hrel;have HCH:=Hd hch;clear hch;by_cases hlt:k<n.length
  ·obtain⟨x,rfl,e1⟩:=HC.out _ hb k hlt
   have g2:=GA.out k hlt;by_cases hz:Lb.check n[k].length=0
   ·have HS:=Hd (Nm.check0_step HCH.out hlt hz)
    have HZ:=Hd hz;clear hz;go_wp2_with fail
    refine (refCheck_any n[k] _ g2).mono ?_;rintro e w1 ⟨rfl,rfl⟩;rw[HZ.out];go_wp2_with fail
    exact⟨⟨k+1,by omega,HS.out,by go_num,hb⟩,by simp[intOf];omega⟩
   ·have HS:=Hd (Nm.check0_stop HCH.out hlt hz)
    have hz':(Lb.check n[k].length != 0)=true:=by simpa using hz
    clear hz;go_wp2_with fail
    refine (refCheck_any n[k] _ g2).mono ?_;rintro e w1 ⟨rfl,rfl⟩;go_wp2_with fail
    go_ret
    exact⟨by rw[HS.out];rfl,hb⟩
  ·obtain rfl:k=n.length:=by omega
   have HS:=Hd (Nm.check0_done HCH.out);by_cases hlen:255<Nm.len n
   ·have HL:=Hd (show Nm.check n=3 by rw[HS.out,if_pos hlen])
    have hlen':255<(Nm.len n:Int):=by omega
    clear hlen;go_wp2_with fail
    refine (refLen_any _ n _ (HV.out _ hb) HN.out).mono ?_;rintro e w1 ⟨rfl,b1⟩;go_wp2_with fail
    go_ret
    exact⟨by rw[HL.out];rfl,Z5 hb b1⟩
   ·have HL:=Hd (show Nm.check n=0 by rw[HS.out,if_neg hlen])
    have hlen':(Nm.len n:Int)<=255:=by omega
    clear hlen;go_wp2_with fail
    refine (refLen_any _ n _ (HV.out _ hb) HN.out).mono ?_;rintro e w1 ⟨rfl,b1⟩;go_wp2_with fail
    go_ret
    exact⟨by rw[HL.out];rfl,Z5 hb b1⟩
end Go.Proofs.YtgmbefolgppmdaaGreat
end
section
namespace Go.Proofs.YtgmbefolgppmdaaGreat
open Go.RowKit Go.Shelf
set_option maxRecDepth 100000
theorem Nm.words_len (n:List (List UInt8)) (h:∀x∈n,x.length<=1000):(Nm.words n).length<=4001*n.length:=by
 induction n with
 | nil=>simp[Nm.words]
 | cons x r ih =>
  have h1:=ih (fun y hy=>h y (Zv _ hy))
  have h2:=h x (Zu ..);have h3:=Lb.text_len x;simp only[Nm.words,Zb,Ze];omega
theorem NB.words {n} (h:NB n):(Nm.words n).length<=4001000:=by
 have:=Nm.words_len n h.2;have:=h.1;omega
def Nm.isTo (a b:List (List UInt8)) (k:Nat):Prop:=k<=a.length/\∀j (h:j<a.length) (h':j<b.length),j<k->a[j]=b[j]
theorem Nm.isTo.step {a b k} (h:Nm.isTo a b k) (hk:k<a.length) (hk':k<b.length) (hl:a[k]=b[k]):Nm.isTo a b (k+1):=by
 refine⟨hk,fun j h1 h2 hj=>?_⟩
 by_cases e:j<k
 ·exact h.2 j h1 h2 e
 ·obtain rfl:j=k:=by omega
  exact hl
theorem Nm.isTo.done {a b k} (h:Nm.isTo a b k) (hk:¬k<a.length) (hl:a.length=b.length):(a == b)=true:=by
 rw[beq_iff_eq];apply List.ext_getElem hl
 intro j h1 h2;exact h.2 j h1 h2 (by omega)
theorem Nm.is_not {a b:List (List UInt8)} {k} (hk:k<a.length) (hk':k<b.length) (hl:a[k]≠b[k]):(a == b)=false:=by
 rw[beq_eq_false_iff_ne];intro hs;apply hl;subst hs;rfl
theorem Nm.is_len {a b:List (List UInt8)} (h:a.length≠b.length):(a == b)=false:=by
 rw[beq_eq_false_iff_ne];intro hs;apply h;rw[hs]
set_option maxHeartbeats 1000000 in
theorem is_any (v u:Value) (a b:List (List UInt8)) (w:World) (hv:Rd v a w) (hu:Rd u b w) (ha:NB a) (hb:NB b) :
  Calls Tryz.prog 42 #[v,u] w (Gives (.bool (a == b)) w):=by
 obtain⟨o,cap,rfl,h1,h2⟩:=hv.form;obtain⟨o',cap',rfl,h1',h2'⟩:=hu.form;have HC:=Hd hv.cells;have HD:=Hd hu.cells;have na:(a.length:Int)<=1000:=by have:=ha.1;omega
 have nb:(b.length:Int)<=1000:=by have:=hb.1;omega
 clear hv hu ha hb;have e0:∀wr W:World,W.heap=wr.heap->∀p,W.cell? p=wr.cell? p:=fun wr W h p=>by unfold World.cell?;rw[h]
 by_cases hab:a.length=b.length
 ·have hab':((a.length:Int) != b.length)=false:=by simp[hab]
  have HAB:=Hd hab;clear hab
  go_enter Tryz.func42,Tryz.ntmps42
  go_wp2
  go_loopw [5] (fun i wr=>∃k:Nat,Nm.isTo a b k/\i=.int .i64 k/\Below w.heap.size w wr) (fun i _=>a.length-(intOf i).toNat)
  case atStart=>exact⟨0,⟨by omega,fun j _ _ h=>by omega⟩,rfl,Below.refl _ _⟩
  case round =>
   obtain⟨k,hto,rfl,hb⟩:=hrel;by_cases hlt:k<a.length
   ·have hlt':k<b.length:=by have:=HAB.out;omega
    obtain⟨x,rfl,e1⟩:=HC.out _ hb k hlt;obtain⟨y,rfl,e2⟩:=HD.out _ hb k hlt';by_cases he:a[k]=b[k]
    ·have HT:=Hd (hto.step hlt hlt' he)
     rw[<-he] at e2;clear hto he;go_wp2_with fail
     go_quiet (fail)
     go_wp2_with fail
     exact⟨⟨k+1,HT.out,by go_num,below_drewN hb _⟩,by simp[intOf];omega⟩
    ·have HF:=Hd (Nm.is_not hlt hlt' he)
     have hs:(a[k] == b[k])=false:=by simpa using he
     clear hto he;go_wp2_with fail
     go_quiet (fail)
     go_wp2_with fail
     go_ret
     exact⟨by rw[HF.out];rfl,below_drewN hb _⟩
   ·have HF:=Hd (hto.done hlt HAB.out)
    go_wp2
    go_ret
    exact⟨by rw[HF.out];rfl,hb⟩
 ·have hab':((a.length:Int) != b.length)=true:=by simp;omega
  have HF:=Hd (Nm.is_len hab)
  go_enter Tryz.func42,Tryz.ntmps42
  go_wp2
  go_ret
  exact⟨by rw[HF.out];rfl,Below.refl _ _⟩
end Go.Proofs.YtgmbefolgppmdaaGreat
end
