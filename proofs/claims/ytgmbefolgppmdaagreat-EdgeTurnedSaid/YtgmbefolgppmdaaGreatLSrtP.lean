/- Stable sorting: what a row's stable order is, that there is but one, and how two of them are brought together. -/
import Derived.Test.YtgmbefolgppmdaaGreatLReg
import Derived.Test.YtgmbefolgppmdaaGreatLAli
import Derived.Test.YtgmbefolgppmdaaGreatLNmF
namespace Go.Proofs.YtgmbefolgppmdaaGreat
set_option maxRecDepth 100000
section
namespace Srt
structure Ord {α:Type} (lt:α->α->Bool):Prop where
 asym:∀{a b},lt a b=true->lt b a=false
 trans:∀{a b c},lt a b=false->lt b c=false->lt a c=false
variable {α:Type} {lt:α->α->Bool}
def eqv (lt:α->α->Bool) (x y:α):Bool:=!lt x y&&!lt y x
def Sorted (lt:α->α->Bool) (l:List α):Prop:=l.Pairwise fun a b=>lt b a=false
def Alike (lt:α->α->Bool) (l' l:List α):Prop:=∀z,l'.filter (eqv lt z)=l.filter (eqv lt z)
def St (lt:α->α->Bool) (l' l:List α):Prop:=Sorted lt l'/\Alike lt l' l
theorem Ord.irr (h:Ord lt) (a:α):lt a a=false:=by
 cases e:lt a a with
 | false=>rfl
 | true=>have:=h.asym e;rw[e] at this;cases this
theorem eqv_refl (h:Ord lt) (x:α):eqv lt x x=true:=by simp[eqv,h.irr]
theorem eqv_iff {x y:α}:eqv lt x y=true ↔ lt x y=false/\lt y x=false:=by simp[eqv]
theorem Ord.lt_of (h:Ord lt) {a b c:α} (h1:lt a b=true) (h2:lt c b=false):lt a c=true:=by
 cases e:lt a c with
 | true=>rfl
 | false=>have:=h.trans e h2;rw[h1] at this;cases this
theorem Ord.lt_of' (h:Ord lt) {a b c:α} (h1:lt a b=true) (h2:lt a c=false):lt c b=true:=by
 cases e:lt c b with
 | true=>rfl
 | false=>have:=h.trans h2 e;rw[h1] at this;cases this
theorem Alike.refl (l:List α):Alike lt l l:=fun _=>rfl
theorem Alike.trans {a b c:List α} (h:Alike lt a b) (k:Alike lt b c):Alike lt a c:=fun z=>(h z).trans (k z)
theorem Alike.symm {a b:List α} (h:Alike lt a b):Alike lt b a:=fun z=>(h z).symm
theorem Alike.append {a b c d:List α} (h:Alike lt a b) (k:Alike lt c d):Alike lt (a++c) (b++d):=fun z=>by rw[List.filter_append,List.filter_append,h z,k z]
theorem Alike.mem (ho:Ord lt) {a b:List α} (h:Alike lt a b) {x:α}:x∈a ↔ x∈b:=by
 have:=congrArg (fun l=>x∈l) (h x)
 simp only[List.mem_filter,eqv_refl ho,and_true] at this;exact iff_of_eq this
theorem Alike.nil (ho:Ord lt) {a:List α} (h:Alike lt a []):a=[]:=by
 cases a with
 | nil=>rfl
 | cons x a=>exact absurd ((h.mem ho).1 (Zu)) (by simp)
theorem St.unique (ho:Ord lt):∀{a b:List α},Sorted lt a->Sorted lt b->Alike lt a b->a=b
 | [],b,_,_,h=>(h.symm.nil ho).symm
 | x::a,[],_,_,h=>absurd (h.nil ho) (by simp)
 | x::a,y::b,ha,hb,h=>by
  have ha':=List.pairwise_cons.1 ha;have hb':=List.pairwise_cons.1 hb;have hxy:lt x y=false:=by
   have hx:x∈y::b:=(h.mem ho).1 Zu;rcases List.mem_cons.1 hx with rfl|hx
   ·exact ho.irr _
   ·exact hb'.1 _ hx
  have hyx:lt y x=false:=by
   have hy:y∈x::a:=(h.mem ho).2 Zu;rcases List.mem_cons.1 hy with rfl|hy
   ·exact ho.irr _
   ·exact ha'.1 _ hy
  have e1:=h x;rw[List.filter_cons_of_pos (eqv_refl ho x),List.filter_cons_of_pos (eqv_iff.2 ⟨hxy,hyx⟩)] at e1;have exy:x=y:=(List.cons.inj e1).1;subst exy;have:Alike lt a b:=fun z=>by
   have:=h z
   rw[List.filter_cons,List.filter_cons] at this;split at this
   ·exact (List.cons.inj this).2
   ·exact this
  rw[St.unique ho ha'.2 hb'.2 this]
theorem St.split (ho:Ord lt) {A1 A2 B1 B2 S1 S2:List α} (hA:Sorted lt (A1++A2)) (hB:Sorted lt (B1++B2)) (h1:∀a∈A1,∀d∈B2,lt d a=false) (h2:∀b∈B1,∀a∈A2,lt b a=true)
  (s1:St lt S1 (A1++B1)) (s2:St lt S2 (A2++B2)):St lt (S1++S2) ((A1++A2)++(B1++B2)):=by
 have hA':=List.pairwise_append.1 hA;have hB':=List.pairwise_append.1 hB;constructor
 ·refine List.pairwise_append.2 ⟨s1.1,s2.1,fun x hx y hy=>?_⟩
  rcases List.mem_append.1 ((s1.2.mem ho).1 hx) with hx|hx<;>rcases List.mem_append.1 ((s2.2.mem ho).1 hy) with hy|hy
  ·exact hA'.2.2 _ hx _ hy
  ·exact h1 _ hx _ hy
  ·exact ho.asym (h2 _ hx _ hy)
  ·exact hB'.2.2 _ hx _ hy
 ·intro z
  rw[List.filter_append,s1.2 z,s2.2 z];simp only[List.filter_append];have hn:B1.filter (eqv lt z)=[]\/A2.filter (eqv lt z)=[]:=by
   rcases hb:B1.filter (eqv lt z) with _|⟨b,B⟩
   ·exact .inl rfl
   ·refine .inr (List.filter_eq_nil_iff.2 fun a ha hz=>?_)
    have hb':b∈B1.filter (eqv lt z):=by rw[hb];exact Zu
    obtain⟨hb1,hb2⟩:=List.mem_filter.1 hb';have hl:=h2 b hb1 a ha;have e1:=eqv_iff.1 hb2;have e2:=eqv_iff.1 hz;have:=ho.trans e1.2 e2.1
    rw[hl] at this;cases this
  rcases hn with hn|hn<;>rw[hn]<;>simp
theorem St.one (x:α):St lt [x] [x]:=⟨List.pairwise_singleton _ _,.refl _⟩
theorem St.self {l:List α} (h:Sorted lt l):St lt l l:=⟨h,.refl _⟩
theorem Sorted.sub {l l':List α} (h:Sorted lt l) (hs:l'.Sublist l):Sorted lt l':=List.Pairwise.sublist hs h
theorem St.insert (ho:Ord lt) {A1 A2:List α} {x:α} (hA:Sorted lt (A1++A2)) (h1:∀a∈A1,lt x a=false) (h2:∀a∈A2,lt x a=true):St lt (A1++x::A2) ((A1++A2)++[x]):=by
 have:=St.split ho (B1:=[x]) (B2:=[]) (S1:=A1++[x]) (S2:=A2) hA (by simp[Sorted]) (by simp) (by simpa using h2)
  ⟨List.pairwise_append.2 ⟨hA.sub (List.sublist_append_left _ _),List.pairwise_singleton _ _,by simpa using h1⟩,.refl _⟩ (by rw[List.append_nil];exact St.self (hA.sub (List.sublist_append_right _ _)))
 simpa using this
theorem St.insertL (ho:Ord lt) {B1 B2:List α} {x:α} (hB:Sorted lt (B1++B2)) (h1:∀b∈B1,lt b x=true) (h2:∀b∈B2,lt b x=false):St lt (B1++x::B2) ([x]++(B1++B2)):=by
 have:=St.split ho (A1:=[]) (A2:=[x]) (S1:=B1) (S2:=x::B2) (by simp[Sorted]) hB (by simp) (by simpa using h1)
  (by rw[Zm];exact St.self (hB.sub (List.sublist_append_left _ _)))
  ⟨List.pairwise_cons.2 ⟨h2,hB.sub (List.sublist_append_right _ _)⟩,.refl _⟩
 simpa using this
def ins (lt:α->α->Bool) (x:α):List α->List α
 | []=>[x]
 | y::l=>if lt x y then x::y::l else y::ins lt x l
def srt (lt:α->α->Bool) (l:List α):List α:=l.foldl (fun s x=>ins lt x s) []
theorem ins_eq (ho:Ord lt) (x:α):∀{l:List α},Sorted lt l->∃A B,l=A++B/\ins lt x l=A++x::B/\(∀a∈A,lt x a=false)/\∀b∈B,lt x b=true
 | [],_=>⟨[],[],rfl,rfl,by simp,by simp⟩
 | y::l,h=>by
  have h':=List.pairwise_cons.1 h;unfold ins;split
  ·rename_i hl
   refine⟨[],y::l,rfl,rfl,by simp,fun b hb=>?_⟩
   rcases List.mem_cons.1 hb with rfl|hb
   ·exact hl
   ·exact ho.lt_of hl (h'.1 _ hb)
  ·rename_i hl
   obtain⟨A,B,e1,e2,h1,h2⟩:=ins_eq ho x h'.2;refine⟨y::A,B,by rw[e1];rfl,by rw[e2];rfl,fun a ha=>?_,h2⟩
   rcases List.mem_cons.1 ha with rfl|ha
   ·simpa using hl
   ·exact h1 _ ha
theorem ins_st (ho:Ord lt) (x:α) {l:List α} (h:Sorted lt l):St lt (ins lt x l) (l++[x]):=by
 obtain⟨A,B,rfl,e,h1,h2⟩:=ins_eq ho x h;rw[e];exact St.insert ho h h1 h2
theorem srt_snoc (l:List α) (x:α):srt lt (l++[x])=ins lt x (srt lt l):=by simp[srt]
theorem srt_st (ho:Ord lt) (l:List α):St lt (srt lt l) l:=by
 suffices H:∀n (l:List α),l.length=n->St lt (srt lt l) l from H _ l rfl
 intro n
 induction n with
 | zero=>intro l hl;obtain rfl:=List.length_eq_zero_iff.1 hl;exact St.self (by simp[srt,Sorted])
 | succ n ih =>
  intro l hl;obtain⟨l',x,rfl⟩:∃l' x,l=l'++[x]:=by
   rcases List.eq_nil_or_concat l with h|⟨l',x,h⟩
   ·rw[h] at hl;simp at hl
   ·exact⟨l',x,by rw[h,List.concat_eq_append]⟩
  have hs:=ih l' (by simpa using hl)
  rw[srt_snoc];have:=ins_st ho x hs.1
  exact⟨this.1,this.2.trans (Alike.append hs.2 (.refl _))⟩
theorem St.eq_srt (ho:Ord lt) {l' l:List α} (h:St lt l' l):l'=srt lt l:=St.unique ho h.1 (srt_st ho l).1 (h.2.trans (srt_st ho l).2.symm)
theorem ins_all {x:α}:∀{B:List α},(∀b∈B,lt x b=true)->ins lt x B=x::B
 | [],_=>rfl
 | b::B,h=>by unfold ins;rw[if_pos (h b Zu)]
theorem ins_skip {x:α}:∀{A B:List α},(∀a∈A,lt x a=false)->ins lt x (A++B)=A++ins lt x B
 | [],_,_=>rfl
 | a::A,B,h=>by
  rw[Zp,ins,if_neg (by rw[h a Zu];exact Bool.false_ne_true),ins_skip (fun b hb=>h b (Zv _ hb))];rfl
theorem ins_len (x:α):∀l:List α,(ins lt x l).length=l.length+1
 | []=>rfl
 | y::l=>by
  unfold ins;split
  ·rfl
  ·rw[Ze,ins_len x l];rfl
theorem srt_len (l:List α):(srt lt l).length=l.length:=by
 suffices H:∀(l s:List α),(l.foldl (fun s x=>ins lt x s) s).length=s.length+l.length by simpa[srt] using H l []
 intro l
 induction l with
 | nil=>intro s;rfl
 | cons x l ih=>intro s;rw[List.foldl_cons,ih,ins_len];simp;omega
theorem ins_stop (ho:Ord lt) {x y:α} {A B:List α} (hs:Sorted lt (A++y::B)) (h:lt x y=false) (hB:∀b∈B,lt x b=true):ins lt x (A++y::B)=A++y::x::B:=by
 have hA:∀a∈A,lt x a=false:=fun a ha=>ho.trans h ((List.pairwise_append.1 hs).2.2 a ha y Zu)
 rw[ins_skip hA,ins,if_neg (by rw[h];exact Bool.false_ne_true),ins_all hB]
theorem sorted_get [Inhabited α] {Y:List α} (h:Sorted lt Y) {i j:Nat} (hij:i<j) (hj:j<Y.length):lt Y[j]! Y[i]! = false:=by
 rw[getElem!_pos Y j hj,getElem!_pos Y i (by omega)]
 exact List.pairwise_iff_getElem.1 h i j (by omega) hj hij
theorem all_take [Inhabited α] {Y:List α} {u:Nat} {p:α->Prop} (h:∀t,t<Y.length->t<u->p Y[t]!):∀b∈Y.take u,p b:=by
 intro b hb;obtain⟨i,hi,rfl⟩:=List.mem_iff_getElem.1 hb;rw[List.length_take] at hi;have:=h i (by omega) (by omega)
 rw[getElem!_pos Y i (by omega)] at this
 rw[List.getElem_take];exact this
theorem all_drop [Inhabited α] {Y:List α} {u:Nat} {p:α->Prop} (h:∀t,t<Y.length->u<=t->p Y[t]!):∀b∈Y.drop u,p b:=by
 intro b hb;obtain⟨i,hi,rfl⟩:=List.mem_iff_getElem.1 hb;rw[List.length_drop] at hi;have:=h (u+i) (by omega) (by omega)
 rw[getElem!_pos Y (u+i) (by omega)] at this
 rw[List.getElem_drop];exact this
theorem ins_map {β:Type} (h:β->α) (x:β):∀l:List β,(ins (fun a b=>lt (h a) (h b)) x l).map h=ins lt (h x) (l.map h)
 | []=>rfl
 | y::l=>by
  simp only[ins,List.map_cons];split
  ·rfl
  ·rw[List.map_cons,ins_map h x l]
theorem srt_map {β:Type} (h:β->α) (l:List β):(srt (fun a b=>lt (h a) (h b)) l).map h=srt lt (l.map h):=by
 suffices H:∀(l s:List β),(l.foldl (fun s x=>ins (fun a b=>lt (h a) (h b)) x s) s).map h=(l.map h).foldl (fun s x=>ins lt x s) (s.map h) from H l []
 intro l
 induction l with
 | nil=>intro s;rfl
 | cons x l ih=>intro s;rw[List.foldl_cons,ih,ins_map,List.map_cons,List.foldl_cons]
theorem sym_cut [Inhabited α] (ho:Ord lt) {X Y:List α} (hX:Sorted lt X) (hY:Sorted lt Y) {h u lo hi:Nat} (h1:lo<=u) (h2:u<=hi) (h3:hi<=X.length) (h4:hi<=h) (h5:h<=lo+Y.length) (h6:lo=0\/h=lo+Y.length) (h7:hi=X.length\/hi=h)
  (ha:∀c,lo<=c->c<u->lt Y[h-1-c]! X[c]! = false) (hb:∀c,u<=c->c<hi->lt Y[h-1-c]! X[c]! = true) :
  (∀a∈X.take u,∀d∈Y.drop (h-u),lt d a=false)/\(∀b∈Y.take (h-u),∀a∈X.drop u,lt b a=true):=by
 constructor
 ·refine all_take fun i hi1 hi2=>all_drop fun j hj1 hj2=>?_
  have hl:lo<u:=by rcases h6 with h6|h6<;>omega
  have e:=ha (u-1) (by omega) (by omega)
  rw[show h-1-(u-1)=h-u by omega] at e
  have e1:lt Y[j]! Y[h-u]! = false:=by
   rcases Nat.lt_or_ge (h-u) j with hj|hj
   ·exact sorted_get hY hj hj1
   ·rw[show j=h-u by omega];exact ho.irr _
  have e2:lt X[u-1]! X[i]! = false:=by
   rcases Nat.lt_or_ge i (u-1) with hj|hj
   ·exact sorted_get hX hj (by omega)
   ·rw[show i=u-1 by omega];exact ho.irr _
  exact ho.trans (ho.trans e1 e) e2
 ·refine all_take fun j hj1 hj2=>all_drop fun i hi1 hi2=>?_
  have hl:u<hi:=by rcases h7 with h7|h7<;>omega
  have e:=hb u (by omega) hl
  have e1:lt Y[h-1-u]! Y[j]! = false:=by
   rcases Nat.lt_or_ge j (h-1-u) with hj|hj
   ·exact sorted_get hY hj (by omega)
   ·rw[show j=h-1-u by omega];exact ho.irr _
  have e2:lt X[i]! X[u]! = false:=by
   rcases Nat.lt_or_ge u i with hj|hj
   ·exact sorted_get hX hj (by omega)
   ·rw[show i=u by omega];exact ho.irr _
  have:=ho.lt_of' e e1
  exact ho.lt_of this e2
end Srt
end
section
open Go.RowKit Go.Shelf
namespace Rc
structure PRec where
 owner:List (List UInt8)
 ttl:Nat
 type:Int
 names:List (List (List UInt8))
 nums:List Nat
 texts:List (List UInt8)
 raw:List UInt8
instance:Inhabited PRec:=⟨⟨[],0,0,[],[],[],[]⟩⟩
def orI (x y:Int):Int:=if x≠0 then x else y
def row {α:Type} (f:α->α->Int):List α->List α->Int
 | [],[]=>0
 | [],_::_=>-1
 | _::_,[]=>1
 | x::a,y::b=>if f x y≠0 then f x y else row f a b
def cmpD (a b:PRec):Int :=
 orI (Nm.sgn a.type b.type) (orI (row Nm.cmp a.names b.names) (orI (row (fun x y:Nat=>Nm.sgn x y) a.nums b.nums) (orI (row Lib.compareBytes a.texts b.texts) (Lib.compareBytes a.raw b.raw))))
def cmp (a b:PRec):Int:=orI (Nm.cmp a.owner b.owner) (orI (Nm.sgn a.type b.type) (cmpD a b))
structure Cm {α:Type} (f:α->α->Int):Prop where
 anti:∀a b,f b a=- f a b
 trans:∀{a b c},f a b<=0->f b c<=0->f a c<=0
variable {α β:Type} {f g:α->α->Int}
theorem Cm.refl (h:Cm f) (a:α):f a a=0:=by have:=h.anti a a;omega
theorem Cm.left (h:Cm f) {a b:α} (e:f a b=0) (c:α):f a c<=0 ↔ f b c<=0:=by
 have:=h.anti a b
 exact⟨fun k=>h.trans (a:=b) (b:=a) (by omega) k,fun k=>h.trans (a:=a) (b:=b) (by omega) k⟩
theorem Cm.right (h:Cm f) {a b:α} (e:f a b=0) (c:α):f c a<=0 ↔ f c b<=0:=by
 have:=h.anti a b
 exact⟨fun k=>h.trans k (by omega),fun k=>h.trans k (by omega)⟩
theorem Cm.lt_le (h:Cm f) {a b c:α} (h1:f a b<0) (h2:f b c<=0):f a c<0:=by
 have e1:=h.trans (a:=a) (b:=b) (c:=c) (by omega) h2
 have e2:f a c≠0:=fun e=>by
  have:=(h.right e b).2 h2
  have:=h.anti a b
  omega
 omega
theorem Cm.le_lt (h:Cm f) {a b c:α} (h1:f a b<=0) (h2:f b c<0):f a c<0:=by
 have e1:=h.trans (a:=a) (b:=b) (c:=c) h1 (by omega)
 have e2:f a c≠0:=fun e=>by
  have:=(h.left e b).1 h1
  have:=h.anti b c
  omega
 omega
theorem Cm.zero (h:Cm f) {a b c:α} (h1:f a b=0) (h2:f b c=0):f a c=0:=by
 have e1:=h.trans (a:=a) (b:=b) (c:=c) (by omega) (by omega)
 have a1:=h.anti a b;have a2:=h.anti b c;have a3:=h.anti a c;have e2:=h.trans (a:=c) (b:=b) (c:=a) (by omega) (by omega)
 omega
theorem Cm.or (hf:Cm f) (hg:Cm g):Cm (fun a b=>orI (f a b) (g a b)):=by
 refine⟨fun a b=>?_,fun {a b c} h k=>?_⟩
 ·have h1:=hf.anti a b
  have h2:=hg.anti a b;unfold orI;split<;>split<;>omega
 ·unfold orI at h k ⊢
  by_cases h0:f a b=0
  ·rw[if_neg (by simpa using h0)] at h
   by_cases k0:f b c=0
   ·rw[if_neg (by simpa using k0)] at k
    rw[if_neg (by simpa using hf.zero h0 k0)]
    exact hg.trans h k
   ·rw[if_pos k0] at k
    have:=hf.le_lt (a:=a) (b:=b) (c:=c) (by omega) (by omega)
    rw[if_pos (by omega)];omega
  ·rw[if_pos h0] at h
   have hk:f b c<=0:=by
    by_cases k0:f b c=0
    ·omega
    ·rw[if_pos k0] at k;exact k
   have:=hf.lt_le (a:=a) (b:=b) (c:=c) (by omega) hk
   rw[if_pos (by omega)];omega
theorem Cm.pull (hf:Cm f) (h:β->α):Cm (fun a b=>f (h a) (h b)):=⟨fun _ _=>hf.anti _ _,fun h1 h2=>hf.trans h1 h2⟩
theorem Cm.row (hf:Cm f):Cm (row f):=by
 refine⟨fun a=>?_,fun {a}=>?_⟩
 ·induction a with
  | nil=>intro b;cases b<;>simp[Rc.row]
  | cons x a ih =>
   intro b;cases b with
   | nil=>simp[Rc.row]
   | cons y b =>
    have:=hf.anti x y
    have:=ih b
    simp only[Rc.row];split<;>split<;>omega
 ·induction a with
  | nil=>intro b c h k;cases c<;>simp[Rc.row]
  | cons x a ih =>
   intro b c h k;cases b with
   | nil=>simp[Rc.row] at h
   | cons y b =>
    cases c with
    | nil=>simp[Rc.row] at k
    | cons z c =>
     simp only[Rc.row] at h k ⊢;by_cases h0:f x y=0
     ·rw[if_neg (by simpa using h0)] at h
      by_cases k0:f y z=0
      ·rw[if_neg (by simpa using k0)] at k
       rw[if_neg (by simpa using hf.zero h0 k0)]
       exact ih h k
      ·rw[if_pos k0] at k
       have:=hf.le_lt (a:=x) (b:=y) (c:=z) (by omega) (by omega)
       rw[if_pos (by omega)];omega
     ·rw[if_pos h0] at h
      have hk:f y z<=0:=by
       by_cases k0:f y z=0
       ·omega
       ·rw[if_pos k0] at k;exact k
      have:=hf.lt_le (a:=x) (b:=y) (c:=z) (by omega) hk
      rw[if_pos (by omega)];omega
theorem sgn_cm:Cm (fun x y:Int=>Nm.sgn x y):=by
 refine⟨fun a b=>?_,fun {a b c} h k=>?_⟩
 ·unfold Nm.sgn;split<;>split<;>(try split)<;>(try split)<;>omega
 ·unfold Nm.sgn at *
  split at h<;>split at k<;>split<;>(try split)<;>(try split at h)<;>(try split at k)<;>omega
theorem bytes_cm:Cm Lib.compareBytes:=⟨fun a b=>cmp_anti a b,fun h k=>cmp_trans _ _ _ h k⟩
theorem name_cm:Cm Nm.cmp:=⟨fun a b=>by have:=Nm.cmpR_anti a.reverse b.reverse;unfold Nm.cmp;omega,fun h k=>Nm.cmp_trans h k⟩
theorem cmpD_cm:Cm cmpD :=
 (sgn_cm.pull PRec.type).or ((name_cm.row.pull PRec.names).or (((sgn_cm.pull (fun n:Nat=>(n:Int))).row.pull PRec.nums).or ((bytes_cm.row.pull PRec.texts).or (bytes_cm.pull PRec.raw))))
theorem cmp_cm:Cm cmp:=(name_cm.pull PRec.owner).or ((sgn_cm.pull PRec.type).or cmpD_cm)
def lt (a b:PRec):Bool:=decide (cmp a b<0)
theorem Cm.ord (hf:Cm f):Srt.Ord (fun a b=>decide (f a b<0)):=by
 refine⟨fun {a b} h=>?_,fun {a b c} h k=>?_⟩
 ·have:=hf.anti a b
  simp only[decide_eq_true_eq,decide_eq_false_iff_not] at *;omega
 ·simp only[decide_eq_false_iff_not,Int.not_lt] at *
  have a1:=hf.anti a b;have a2:=hf.anti b c;have a3:=hf.anti a c;have:=hf.trans (a:=c) (b:=b) (c:=a) (by omega) (by omega)
  omega
theorem lt_ord:Srt.Ord lt:=cmp_cm.ord
def join (a b:PRec):PRec:={ a with ttl:=min a.ttl b.ttl }
theorem cmp_join_left (a b c:PRec):cmp (join a b) c=cmp a c:=rfl
def fewL:PRec->List PRec->List PRec
 | x,[]=>[x]
 | x,y::l=>if cmp x y=0 then fewL (join x y) l else x::fewL y l
def few:List PRec->List PRec
 | []=>[]
 | x::l=>fewL x l
def put (x:PRec):List PRec->List PRec
 | []=>[x]
 | y::l=>if cmp y x<0 then y::put x l else if cmp y x=0 then (if x.ttl<y.ttl then { y with ttl:=x.ttl } else y)::l else x::y::l
def refCanon (l:List PRec):List PRec:=l.foldl (fun out x=>put x out) []
def canon (l:List PRec):List PRec:=few (Srt.srt lt l)
theorem fewL_head:∀(l:List PRec) (x:PRec),∃h t,fewL x l=h::t/\∀z,cmp h z=cmp x z
 | [],x=>⟨x,[],rfl,fun _=>rfl⟩
 | y::l,x=>by
  unfold fewL;split
  ·obtain⟨h,t,e,k⟩:=fewL_head l (join x y)
   exact⟨h,t,e,fun z=>k z⟩
  ·exact⟨x,_,rfl,fun _=>rfl⟩
theorem put_head {x c:PRec} {l:List PRec} (h:0<cmp c x):put x (fewL c l)=x::fewL c l:=by
 obtain⟨hd,t,e,k⟩:=fewL_head l c;rw[e,put,if_neg (by rw[k];omega),if_neg (by rw[k];omega)]
theorem put_join {x c:PRec} {l:List PRec} (h:cmp c x=0):put x (c::l)=join c x::l:=by
 rw[put,if_neg (by omega),if_pos h]
 congr 1
 unfold join;split
 ·rw[Nat.min_eq_right (by omega)]
 ·rw[Nat.min_eq_left (by omega)]
theorem lt_iff {a b:PRec}:lt a b=true ↔ cmp a b<0:=by simp[lt]
theorem lt_not {a b:PRec}:lt a b=false ↔ 0<=cmp a b:=by simp[lt]
theorem fewL_ins (x:PRec):∀(s:List PRec) (c:PRec),Srt.Sorted lt (c::s)->cmp c x<=0->fewL c (Srt.ins lt x s)=put x (fewL c s)
 | [],c,_,hc=>by
  simp only[Srt.ins,fewL];by_cases h0:cmp c x=0
  ·rw[if_pos h0,put_join h0]
  ·rw[if_neg h0,put,if_pos (by omega)];rfl
 | y::s,c,hs,hc=>by
  have hs':=List.pairwise_cons.1 hs;have hcy:cmp c y<=0:=by
   have:=lt_not.1 (hs'.1 y Zu)
   have:=cmp_cm.anti c y
   omega
  unfold Srt.ins;split
  ·rename_i hl
   have hl:=lt_iff.1 hl;have hcy':=cmp_cm.le_lt hc hl;have hyx:=cmp_cm.anti x y;by_cases h0:cmp c x=0
   ·have e1:fewL c (x::y::s)=join c x::fewL y s:=by
     rw[fewL,if_pos h0,fewL,if_neg (by rw[cmp_join_left];omega)]
    have e2:fewL c (y::s)=c::fewL y s:=by rw[fewL,if_neg (by omega)]
    rw[e1,e2,put_join h0]
   ·have e1:fewL c (x::y::s)=c::x::fewL y s:=by
     rw[fewL,if_neg h0,fewL,if_neg (by omega)]
    have e2:fewL c (y::s)=c::fewL y s:=by rw[fewL,if_neg (by omega)]
    rw[e1,e2,put,if_pos (by omega),put_head (by omega)]
  ·rename_i hl
   have hl:=lt_not.1 (by simpa using hl)
   have hyx:=cmp_cm.anti x y;by_cases h0:cmp c y=0
   ·rw[fewL,if_pos h0,fewL,if_pos h0]
    refine fewL_ins x s (join c y) ?_ hc;refine List.pairwise_cons.2 ⟨fun b hb=>?_,(List.pairwise_cons.1 hs'.2).2⟩
    have:=hs'.1 b (Zv _ hb)
    exact this
   ·rw[fewL,if_neg h0,fewL,if_neg h0,put,if_pos (cmp_cm.lt_le (by omega) (by omega:cmp y x<=0))]
    rw[fewL_ins x s y hs'.2 (by omega)]
theorem few_ins (x:PRec) {s:List PRec} (hs:Srt.Sorted lt s):few (Srt.ins lt x s)=put x (few s):=by
 cases s with
 | nil=>rfl
 | cons c s =>
  unfold Srt.ins;split
  ·rename_i hl
   have hl:=lt_iff.1 hl;have:=cmp_cm.anti x c
   show fewL x (c::s)=put x (fewL c s);rw[fewL,if_neg (by omega),put_head (by omega)]
  ·rename_i hl
   have hl:=lt_not.1 (by simpa using hl)
   have:=cmp_cm.anti x c
   exact fewL_ins x s c hs (by omega)
theorem refCanon_snoc (l:List PRec) (x:PRec):refCanon (l++[x])=put x (refCanon l):=by simp[refCanon]
theorem canon_eq (l:List PRec):canon l=refCanon l:=by
 suffices H:∀n (l:List PRec),l.length=n->canon l=refCanon l from H _ l rfl
 intro n
 induction n with
 | zero=>intro l hl;obtain rfl:=List.length_eq_zero_iff.1 hl;rfl
 | succ n ih =>
  intro l hl;obtain⟨l',x,rfl⟩:∃l' x,l=l'++[x]:=by
   rcases List.eq_nil_or_concat l with h|⟨l',x,h⟩
   ·rw[h] at hl;simp at hl
   ·exact⟨l',x,by rw[h,List.concat_eq_append]⟩
  rw[refCanon_snoc,<-ih l' (by simpa using hl)]
  unfold canon;rw[Srt.srt_snoc,few_ins x (Srt.srt_st lt_ord l').1]
def addF (out:List PRec) (x:PRec):List PRec:=match out.getLast? with
 | none=>[x]
 | some y=>if cmp y x=0 then out.dropLast++[join y x] else out++[x]
theorem foldl_addF:∀(l out:List PRec) (c:PRec),l.foldl addF (out++[c])=out++fewL c l
 | [],out,c=>rfl
 | y::l,out,c=>by
  have e:addF (out++[c]) y=if cmp c y=0 then out++[join c y] else (out++[c])++[y]:=by simp[addF]
  rw[List.foldl_cons,e,fewL];split
  ·rw[foldl_addF l out (join c y)]
  ·rw[foldl_addF l (out++[c]) y];simp
theorem few_foldl (l:List PRec):l.foldl addF []=few l:=by
 cases l with
 | nil=>rfl
 | cons x l=>exact foldl_addF l [] x
end Rc
end
end Go.Proofs.YtgmbefolgppmdaaGreat
