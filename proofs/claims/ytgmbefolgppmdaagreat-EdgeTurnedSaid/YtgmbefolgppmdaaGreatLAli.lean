/- short names -/
import Derived.Lib.Hide
import Derived.RowKit
import Derived.CallsIn
namespace Go.Proofs.YtgmbefolgppmdaaGreat
open Go.RowKit
universe u v
theorem Zq {α:Sort u} (a:α):∃n,a=n:=⟨_,rfl⟩
theorem Zr {w:World} {o:Obj}:Go.RowKit.Below w.heap.size w (w.alloc o):=(Go.RowKit.Below.refl _ _).alloc (Nat.le_refl _) _
theorem Hd {p:Prop} (h:p) : Go.RowKit.Hid p := h
theorem Za {α:Type u} (l:List α) (i:Nat) (a:α):l.toArray.setIfInBounds i a=(l.set i a).toArray:=List.setIfInBounds_toArray ..
theorem Zb {α:Type u} {as bs:List α}:(as++bs).length=as.length+bs.length:=List.length_append
theorem Zc {α:Type u} {x:α} {xs:List α} {a:α}:(x::xs).set 0 a=a::xs:=List.set_cons_zero
theorem Zd {α:Type u} {x:α} {xs:List α} {i:Nat} {a:α}:(x::xs).set (i+1) a=x::xs.set i a:=List.set_cons_succ
theorem Ze {α:Type u} {a:α} {as:List α}:(a::as).length=as.length+1:=List.length_cons
theorem Zf {α:Type u} {β:Type v} {as:List α} (f:α → β):(as.map f).length=as.length:=List.length_map ..
theorem Zg {α:Type u}:([]:List α).length=0:=List.length_nil
theorem Zh (n:Nat):n ≤ n:=Nat.le_refl n
theorem Zi {n:Nat} {α:Type u} {a:α}:Array.replicate (n+1) a=(Array.replicate n a).push a:=Array.replicate_succ
theorem Zj {α:Type u} {a:α}:Array.replicate 0 a=#[]:=Array.replicate_zero
theorem Zk {α:Type u} (l:List α) (a:α):l.toArray.push a=(l++[a]).toArray:=List.push_toArray ..
theorem Zl {α:Type u} (l r:List α):l.toArray++r.toArray=(l++r).toArray:=List.append_toArray ..
theorem Zm {α:Type u} (as:List α):[]++as=as:=List.nil_append ..
theorem Zp {α:Type u} {a:α} {as bs:List α}:a::as++bs=a::(as++bs):=List.cons_append
theorem Zo {α:Type u} {as:List α}:as.toArray.size=as.length:=List.size_toArray
theorem Zs {α:Type u} {a b:List α} {i:Nat} (h:a.length ≤ i) {k:i<(a++b).length}:(a++b)[i]=b[i-a.length]'(by rw[List.length_append] at k;omega):=List.getElem_append_right h
theorem Zt {α:Type u} {i:Nat} {a b:List α} (h:i<a.length) {k:i<(a++b).length}:(a++b)[i]=a[i]:=List.getElem_append_left h
theorem Zu {α:Type u} {a:α} {l:List α}:a∈a::l:=List.mem_cons_self
theorem Zv {α:Type u} (y:α) {a:α} {l:List α} (h:a∈l):a∈y::l:=List.mem_cons_of_mem y h
theorem Zw {α:Type u} {l:List α}:l.length=0 ↔ l=[]:=List.length_eq_zero_iff
theorem Zx {α:Type u} {i:Nat} {l:List α} (h:i<l.length):l.take (i+1)=l.take i++[l[i]]:=List.take_succ_eq_append_getElem h
theorem Zy {α:Type u} {i:Nat} {l:List α} (h:i<l.length):l.drop i=l[i]::l.drop (i+1):=List.drop_eq_getElem_cons h
theorem Zz {α:Type u} {i:Nat} {l:List α} (h:l.length ≤ i):l.drop i=[]:=List.drop_of_length_le h
theorem zF {n:Nat} {P:Program} {f:FuncId} {args:Array Value} {w:World} {R:Ending → World → Prop}:CallsIn Fence.wide n P f args w R ↔ Calls P f args w R:=callsIn_wide
theorem zL {p:Prop} [Decidable p] (h:¬p):decide p=false:=decide_eq_false h
theorem zM {p:Prop} [Decidable p] (h:p):decide p=true:=decide_eq_true h
theorem zN {α:Type u} {l:List α} {i:Nat} (h:i<l.length):l[i]? = some l[i]:=List.getElem?_eq_getElem h
theorem zO {α:Type u} {i:Nat} {b:α} {xs:Array α}:xs[i]? = some b ↔ ∃h:i<xs.size,xs[i]=b:=Array.getElem?_eq_some_iff
end Go.Proofs.YtgmbefolgppmdaaGreat
