/- Records: what is read of them in memory; rows compared. -/
import Derived.Test.YtgmbefolgppmdaaGreatLSrtP
import Derived.Test.YtgmbefolgppmdaaGreatLAli
import Derived.Test.YtgmbefolgppmdaaGreatLReg
namespace Go.Proofs.YtgmbefolgppmdaaGreat
set_option maxRecDepth 100000
section
open Go.RowKit Go.Shelf
def Sl (v:Value) (cs:List Value) (W:World):Prop:=∃o cap,v=.slice o cs.length cap/\cs.length<=cap/\cap<=maxLen/\(o=none->cap=0)/\∀j (h:j<cs.length),∃a,o=some a/\W.cell? (a.add j)=some cs[j]
theorem Sl.kept {v cs} {W W':World} (h:Sl v cs W) (hk:∀p:Addr,p.block<W.heap.size->W'.cell? p=W.cell? p):Sl v cs W':=by
 obtain⟨o,cap,h1,h2,h3,h4,h5⟩:=h;refine⟨o,cap,h1,h2,h3,h4,fun j hj=>?_⟩
 obtain⟨a,ha,hc⟩:=h5 j hj;exact⟨a,ha,(hk _ (zG hc)).trans hc⟩
theorem Sl.below {v cs} {W W':World} (h:Sl v cs W) (hb:Below W.heap.size W W'):Sl v cs W':=h.kept fun _p hp=>hb.cell hp
theorem Sl.form {v cs} {W:World} (h:Sl v cs W):∃o cap,v=.slice o cs.length cap/\cs.length<=cap/\cap<=maxLen:=by
 obtain⟨o,cap,h1,h2,h3,h4,h5⟩:=h;exact⟨o,cap,h1,h2,h3⟩
theorem Sl.cells {o cs n cap} {W:World} (h:Sl (.slice o n cap) cs W):∀W',Below W.heap.size W W'->∀k (h:k<cs.length),∃x,o=some x/\W'.cell? (x.add k)=some cs[k]:=by
 intro W' hb k hk;obtain⟨o',cap',h1,h2,h3,h4,h5⟩:=h.below hb;cases h1;exact h5 k hk
theorem Rd.sl {v l} {W:World} (h:Rd v l W):Sl v (l.map S) W:=by
 obtain⟨o,cap,h1,h2,h3,h4,h5⟩:=h;refine⟨o,cap,by rw[Zf];exact h1,by rw[Zf];exact h2,h3,h4,fun j hj=>?_⟩
 obtain⟨a,ha,hc⟩:=h5 j (by simpa using hj)
 exact⟨a,ha,by rw[hc,List.getElem_map]⟩
namespace Rc
structure RowAt {α:Type} (f:α->α->Int) (a b:List α) (k:Nat):Prop where
 la:k<=a.length
 lb:k<=b.length
 eq:row f a b=row f (a.drop k) (b.drop k)
theorem RowAt.start {α:Type} (f:α->α->Int) (a b:List α):RowAt f a b 0:=⟨by omega,by omega,rfl⟩
variable {α:Type} {f:α->α->Int} {a b:List α} {k:Nat}
theorem RowAt.go (h:RowAt f a b k) (ha:k<a.length) (hb:k<b.length) (hz:f a[k] b[k]=0):RowAt f a b (k+1):=by
 refine⟨ha,hb,?_⟩;rw[h.eq,Zy ha,Zy hb,row,if_neg (by simpa using hz)]
theorem RowAt.stop (h:RowAt f a b k) (ha:k<a.length) (hb:k<b.length) (hz:f a[k] b[k]≠0):row f a b=f a[k] b[k]:=by
 rw[h.eq,Zy ha,Zy hb,row,if_pos hz]
theorem RowAt.more (h:RowAt f a b k) (ha:k<a.length) (hb:¬k<b.length):row f a b=1:=by
 rw[h.eq,Zy ha,Zz (l:=b) (by omega),row]
theorem RowAt.less (h:RowAt f a b k) (ha:¬k<a.length) (hb:a.length<b.length):row f a b=-1:=by
 have:=h.la
 rw[h.eq,Zz (l:=a) (by omega),Zy (show k<b.length by omega),row]
theorem RowAt.same (h:RowAt f a b k) (ha:¬k<a.length) (hb:¬a.length<b.length):row f a b=0:=by
 have:=h.la;have:=h.lb
 rw[h.eq,Zz (l:=a) (by omega),Zz (l:=b) (by omega),row]
end Rc
set_option maxHeartbeats 1000000 in
theorem names_cf {α:Type} (f:α->α->Int) (ax bx:List α) (us vs:List Value) (v u:Value) (w:World) (gf:Nat) (eg:∀args w,(callFunc gf args).run Tryz.prog w=.ok (.enter gf args) w) (hv:Sl v us w) (hu:Sl u vs w) (la:us.length=ax.length) (lb:vs.length=bx.length) (na:ax.length<=1000000) (nb:bx.length<=1000000)
  (hcb:∀wr,Below w.heap.size w wr->∀k (h1:k<us.length) (h2:k<vs.length) (h3:k<ax.length) (h4:k<bx.length),Calls Tryz.prog gf #[us[k],vs[k]] wr (Gives (.int .i64 (f ax[k] bx[k])) wr)) :
  Calls Tryz.prog 139 #[v,u,.func (.func gf) #[] #[]] w (Gives (.int .i64 (Rc.row f ax bx)) w):=by
 obtain⟨o,cap,rfl,h1,h2⟩:=hv.form;obtain⟨o',cap',rfl,h1',h2'⟩:=hu.form;have HC:=Hd hv.cells;have HD:=Hd hu.cells;have HCB:=Hd hcb;have LA:=Hd la;have LB:=Hd lb;have na':(ax.length:Int)<=1000000:=by omega
 have nb':(bx.length:Int)<=1000000:=by omega
 rw[la,lb];clear hv hu hcb na nb la lb h1 h2 h1' h2'
 go_enter Tryz.func139,Tryz.ntmps139
 go_wp2
 go_loopw [13] (fun i wr=>∃k:Nat,Rc.RowAt f ax bx k/\i=.int .i64 k/\Below w.heap.size w wr) (fun i _=>ax.length-(intOf i).toNat)
 case atStart=>exact⟨0,Rc.RowAt.start f ax bx,rfl,Below.refl _ _⟩
 case round =>
  obtain⟨k,hto,rfl,hb⟩:=hrel;by_cases hlt:k<ax.length
  ·have hltz:(k:Int)<(ax.length:Int):=by omega
   obtain⟨x,rfl,e1⟩:=HC.out _ hb k (by rw[LA.out];exact hlt)
   by_cases hlt2:k<bx.length
   ·have hltz2:¬((bx.length:Int)<=(k:Int)):=by omega
    have hltz3:(k:Int)<(bx.length:Int):=by omega
    obtain⟨y,rfl,e2⟩:=HD.out _ hb k (by rw[LB.out];exact hlt2)
    have HCK:=Hd (HCB.out _ hb k (by rw[LA.out];exact hlt) (by rw[LB.out];exact hlt2) hlt hlt2)
    obtain⟨z,hz⟩:=Zq (f ax[k] bx[k]);have HZ:=Hd hz;by_cases h0:z=0
    ·have HT:=Hd (hto.go hlt hlt2 (hz.trans h0))
     clear hto hz;go_wp2_with fail
     refine HCK.out.mono ?_;rintro e w1 ⟨rfl,b1⟩;rw[HZ.out];subst h0;go_wp2_with fail
     exact⟨⟨k+1,HT.out,by go_num,Z5 hb b1⟩,by simp[intOf];omega⟩
    ·have HF:=Hd (hto.stop hlt hlt2 (by rw[hz];exact h0))
     have hz':(z != 0)=true:=by simpa using h0
     clear hto hz h0;go_wp2_with fail
     refine HCK.out.mono ?_;rintro e w1 ⟨rfl,b1⟩;rw[HZ.out];go_wp2_with fail
     go_ret
     exact⟨by rw[HF.out,HZ.out];rfl,Z5 hb b1⟩
   ·have hltz2:(bx.length:Int)<=(k:Int):=by omega
    have HF:=Hd (hto.more hlt hlt2);clear hto;go_wp2_with fail
    go_ret
    exact⟨by rw[HF.out];rfl,hb⟩
  ·have hltz:¬((k:Int)<(ax.length:Int)):=by omega
   by_cases hll:ax.length<bx.length
   ·have hllz:(ax.length:Int)<(bx.length:Int):=by omega
    have HF:=Hd (hto.less hlt hll);clear hto;go_wp2_with fail
    go_ret
    exact⟨by rw[HF.out];rfl,hb⟩
   ·have hllz:¬((ax.length:Int)<(bx.length:Int)):=by omega
    have HF:=Hd (hto.same hlt hll);clear hto;go_wp2_with fail
    go_ret
    exact⟨by rw[HF.out];rfl,hb⟩
set_option maxHeartbeats 1000000 in
theorem names_row {α:Type} (f:α->α->Int) (ax bx:List α) (us vs:List Value) (v u:Value) (w:World) (gf:Nat) (eg:∀args w,(callFunc gf args).run Tryz.prog w=.ok (.enter gf args) w) (hv:Sl v us w) (hu:Sl u vs w) (la:us.length=ax.length) (lb:vs.length=bx.length) (na:ax.length<=1000000) (nb:bx.length<=1000000)
  (hcb:∀wr,Below w.heap.size w wr->∀k (h1:k<us.length) (h2:k<vs.length) (h3:k<ax.length) (h4:k<bx.length),Calls Tryz.prog gf #[us[k],vs[k]] wr (Gives (.int .i64 (f ax[k] bx[k])) wr)) :
  Calls Tryz.prog 131 #[v,u,.func (.func gf) #[] #[]] w (Gives (.int .i64 (Rc.row f ax bx)) w):=by
 have HC:=Hd (names_cf f ax bx us vs v u w gf eg hv hu la lb na nb hcb);clear hcb hv hu la lb
 go_enter Tryz.func131,Tryz.ntmps131
 go_wp2_with fail
 refine HC.out.mono ?_;rintro e w1 ⟨rfl,b1⟩;go_wp2_with fail
 go_ret
 exact⟨rfl,b1⟩
set_option maxHeartbeats 1000000 in
theorem nums_cf {α:Type} (f:α->α->Int) (ax bx:List α) (us vs:List Value) (v u:Value) (w:World) (gf:Nat) (eg:∀args w,(callFunc gf args).run Tryz.prog w=.ok (.enter gf args) w) (hv:Sl v us w) (hu:Sl u vs w) (la:us.length=ax.length) (lb:vs.length=bx.length) (na:ax.length<=1000000) (nb:bx.length<=1000000)
  (hcb:∀wr,Below w.heap.size w wr->∀k (h1:k<us.length) (h2:k<vs.length) (h3:k<ax.length) (h4:k<bx.length),Calls Tryz.prog gf #[us[k],vs[k]] wr (Gives (.int .i64 (f ax[k] bx[k])) wr)) :
  Calls Tryz.prog 140 #[v,u,.func (.func gf) #[] #[]] w (Gives (.int .i64 (Rc.row f ax bx)) w):=by
 obtain⟨o,cap,rfl,h1,h2⟩:=hv.form;obtain⟨o',cap',rfl,h1',h2'⟩:=hu.form;have HC:=Hd hv.cells;have HD:=Hd hu.cells;have HCB:=Hd hcb;have LA:=Hd la;have LB:=Hd lb;have na':(ax.length:Int)<=1000000:=by omega
 have nb':(bx.length:Int)<=1000000:=by omega
 rw[la,lb];clear hv hu hcb na nb la lb h1 h2 h1' h2'
 go_enter Tryz.func140,Tryz.ntmps140
 go_wp2
 go_loopw [13] (fun i wr=>∃k:Nat,Rc.RowAt f ax bx k/\i=.int .i64 k/\Below w.heap.size w wr) (fun i _=>ax.length-(intOf i).toNat)
 case atStart=>exact⟨0,Rc.RowAt.start f ax bx,rfl,Below.refl _ _⟩
 case round =>
  obtain⟨k,hto,rfl,hb⟩:=hrel;by_cases hlt:k<ax.length
  ·have hltz:(k:Int)<(ax.length:Int):=by omega
   obtain⟨x,rfl,e1⟩:=HC.out _ hb k (by rw[LA.out];exact hlt)
   by_cases hlt2:k<bx.length
   ·have hltz2:¬((bx.length:Int)<=(k:Int)):=by omega
    have hltz3:(k:Int)<(bx.length:Int):=by omega
    obtain⟨y,rfl,e2⟩:=HD.out _ hb k (by rw[LB.out];exact hlt2)
    have HCK:=Hd (HCB.out _ hb k (by rw[LA.out];exact hlt) (by rw[LB.out];exact hlt2) hlt hlt2)
    obtain⟨z,hz⟩:=Zq (f ax[k] bx[k]);have HZ:=Hd hz;by_cases h0:z=0
    ·have HT:=Hd (hto.go hlt hlt2 (hz.trans h0))
     clear hto hz;go_wp2_with fail
     refine HCK.out.mono ?_;rintro e w1 ⟨rfl,b1⟩;rw[HZ.out];subst h0;go_wp2_with fail
     exact⟨⟨k+1,HT.out,by go_num,Z5 hb b1⟩,by simp[intOf];omega⟩
    ·have HF:=Hd (hto.stop hlt hlt2 (by rw[hz];exact h0))
     have hz':(z != 0)=true:=by simpa using h0
     clear hto hz h0;go_wp2_with fail
     refine HCK.out.mono ?_;rintro e w1 ⟨rfl,b1⟩;rw[HZ.out];go_wp2_with fail
     go_ret
     exact⟨by rw[HF.out,HZ.out];rfl,Z5 hb b1⟩
   ·have hltz2:(bx.length:Int)<=(k:Int):=by omega
    have HF:=Hd (hto.more hlt hlt2);clear hto;go_wp2_with fail
    go_ret
    exact⟨by rw[HF.out];rfl,hb⟩
  ·have hltz:¬((k:Int)<(ax.length:Int)):=by omega
   by_cases hll:ax.length<bx.length
   ·have hllz:(ax.length:Int)<(bx.length:Int):=by omega
    have HF:=Hd (hto.less hlt hll);clear hto;go_wp2_with fail
    go_ret
    exact⟨by rw[HF.out];rfl,hb⟩
   ·have hllz:¬((ax.length:Int)<(bx.length:Int)):=by omega
    have HF:=Hd (hto.same hlt hll);clear hto;go_wp2_with fail
    go_ret
    exact⟨by rw[HF.out];rfl,hb⟩
set_option maxHeartbeats 1000000 in
theorem nums_row {α:Type} (f:α->α->Int) (ax bx:List α) (us vs:List Value) (v u:Value) (w:World) (gf:Nat) (eg:∀args w,(callFunc gf args).run Tryz.prog w=.ok (.enter gf args) w) (hv:Sl v us w) (hu:Sl u vs w) (la:us.length=ax.length) (lb:vs.length=bx.length) (na:ax.length<=1000000) (nb:bx.length<=1000000)
  (hcb:∀wr,Below w.heap.size w wr->∀k (h1:k<us.length) (h2:k<vs.length) (h3:k<ax.length) (h4:k<bx.length),Calls Tryz.prog gf #[us[k],vs[k]] wr (Gives (.int .i64 (f ax[k] bx[k])) wr)) :
  Calls Tryz.prog 132 #[v,u,.func (.func gf) #[] #[]] w (Gives (.int .i64 (Rc.row f ax bx)) w):=by
 have HC:=Hd (nums_cf f ax bx us vs v u w gf eg hv hu la lb na nb hcb);clear hcb hv hu la lb
 go_enter Tryz.func132,Tryz.ntmps132
 go_wp2_with fail
 refine HC.out.mono ?_;rintro e w1 ⟨rfl,b1⟩;go_wp2_with fail
 go_ret
 exact⟨rfl,b1⟩
set_option maxHeartbeats 1000000 in
theorem texts_cf {α:Type} (f:α->α->Int) (ax bx:List α) (us vs:List Value) (v u:Value) (w:World) (gf:Nat) (eg:∀args w,(callFunc gf args).run Tryz.prog w=.ok (.enter gf args) w) (hv:Sl v us w) (hu:Sl u vs w) (la:us.length=ax.length) (lb:vs.length=bx.length) (na:ax.length<=1000000) (nb:bx.length<=1000000)
  (hcb:∀wr,Below w.heap.size w wr->∀k (h1:k<us.length) (h2:k<vs.length) (h3:k<ax.length) (h4:k<bx.length),Calls Tryz.prog gf #[us[k],vs[k]] wr (Gives (.int .i64 (f ax[k] bx[k])) wr)) :
  Calls Tryz.prog 142 #[v,u,.func (.func gf) #[] #[]] w (Gives (.int .i64 (Rc.row f ax bx)) w):=by
 obtain⟨o,cap,rfl,h1,h2⟩:=hv.form;obtain⟨o',cap',rfl,h1',h2'⟩:=hu.form;have HC:=Hd hv.cells;have HD:=Hd hu.cells;have HCB:=Hd hcb;have LA:=Hd la;have LB:=Hd lb;have na':(ax.length:Int)<=1000000:=by omega
 have nb':(bx.length:Int)<=1000000:=by omega
 rw[la,lb];clear hv hu hcb na nb la lb h1 h2 h1' h2'
 go_enter Tryz.func142,Tryz.ntmps142
 go_wp2
 go_loopw [13] (fun i wr=>∃k:Nat,Rc.RowAt f ax bx k/\i=.int .i64 k/\Below w.heap.size w wr) (fun i _=>ax.length-(intOf i).toNat)
 case atStart=>exact⟨0,Rc.RowAt.start f ax bx,rfl,Below.refl _ _⟩
 case round =>
  obtain⟨k,hto,rfl,hb⟩:=hrel;by_cases hlt:k<ax.length
  ·have hltz:(k:Int)<(ax.length:Int):=by omega
   obtain⟨x,rfl,e1⟩:=HC.out _ hb k (by rw[LA.out];exact hlt)
   by_cases hlt2:k<bx.length
   ·have hltz2:¬((bx.length:Int)<=(k:Int)):=by omega
    have hltz3:(k:Int)<(bx.length:Int):=by omega
    obtain⟨y,rfl,e2⟩:=HD.out _ hb k (by rw[LB.out];exact hlt2)
    have HCK:=Hd (HCB.out _ hb k (by rw[LA.out];exact hlt) (by rw[LB.out];exact hlt2) hlt hlt2)
    obtain⟨z,hz⟩:=Zq (f ax[k] bx[k]);have HZ:=Hd hz;by_cases h0:z=0
    ·have HT:=Hd (hto.go hlt hlt2 (hz.trans h0))
     clear hto hz;go_wp2_with fail
     refine HCK.out.mono ?_;rintro e w1 ⟨rfl,b1⟩;rw[HZ.out];subst h0;go_wp2_with fail
     exact⟨⟨k+1,HT.out,by go_num,Z5 hb b1⟩,by simp[intOf];omega⟩
    ·have HF:=Hd (hto.stop hlt hlt2 (by rw[hz];exact h0))
     have hz':(z != 0)=true:=by simpa using h0
     clear hto hz h0;go_wp2_with fail
     refine HCK.out.mono ?_;rintro e w1 ⟨rfl,b1⟩;rw[HZ.out];go_wp2_with fail
     go_ret
     exact⟨by rw[HF.out,HZ.out];rfl,Z5 hb b1⟩
   ·have hltz2:(bx.length:Int)<=(k:Int):=by omega
    have HF:=Hd (hto.more hlt hlt2);clear hto;go_wp2_with fail
    go_ret
    exact⟨by rw[HF.out];rfl,hb⟩
  ·have hltz:¬((k:Int)<(ax.length:Int)):=by omega
   by_cases hll:ax.length<bx.length
   ·have hllz:(ax.length:Int)<(bx.length:Int):=by omega
    have HF:=Hd (hto.less hlt hll);clear hto;go_wp2_with fail
    go_ret
    exact⟨by rw[HF.out];rfl,hb⟩
   ·have hllz:¬((ax.length:Int)<(bx.length:Int)):=by omega
    have HF:=Hd (hto.same hlt hll);clear hto;go_wp2_with fail
    go_ret
    exact⟨by rw[HF.out];rfl,hb⟩
set_option maxHeartbeats 1000000 in
theorem texts_row {α:Type} (f:α->α->Int) (ax bx:List α) (us vs:List Value) (v u:Value) (w:World) (gf:Nat) (eg:∀args w,(callFunc gf args).run Tryz.prog w=.ok (.enter gf args) w) (hv:Sl v us w) (hu:Sl u vs w) (la:us.length=ax.length) (lb:vs.length=bx.length) (na:ax.length<=1000000) (nb:bx.length<=1000000)
  (hcb:∀wr,Below w.heap.size w wr->∀k (h1:k<us.length) (h2:k<vs.length) (h3:k<ax.length) (h4:k<bx.length),Calls Tryz.prog gf #[us[k],vs[k]] wr (Gives (.int .i64 (f ax[k] bx[k])) wr)) :
  Calls Tryz.prog 134 #[v,u,.func (.func gf) #[] #[]] w (Gives (.int .i64 (Rc.row f ax bx)) w):=by
 have HC:=Hd (texts_cf f ax bx us vs v u w gf eg hv hu la lb na nb hcb);clear hcb hv hu la lb
 go_enter Tryz.func134,Tryz.ntmps134
 go_wp2_with fail
 refine HC.out.mono ?_;rintro e w1 ⟨rfl,b1⟩;go_wp2_with fail
 go_ret
 exact⟨rfl,b1⟩
set_option maxHeartbeats 1000000 in
theorem isNaNU_any (x:Int) (w:World):Calls Tryz.prog 141 #[.int .u32 x] w fun e w'=>e=.returned (.bool false)/\w=w':=by
 go_enter Tryz.func141,Tryz.ntmps141
 go_wp2
 go_ret
 exact⟨rfl,rfl⟩
set_option maxHeartbeats 1000000 in
theorem cmpU_any (x y:Int) (w:World):Calls Tryz.prog 133 #[.int .u32 x,.int .u32 y] w fun e w'=>e=.returned (.int .i64 (Nm.sgn x y))/\w=w':=by
 rcases Int.lt_trichotomy x y with h|h|h
 ·have H:=Hd (show Nm.sgn x y=-1 by unfold Nm.sgn;rw[if_pos h])
  go_enter Tryz.func133,Tryz.ntmps133
  go_wp2_with (go_at_call 141;refine (isNaNU_any _ _).mono ?_;rintro e w1 ⟨rfl,rfl⟩)
  go_ret
  exact⟨by rw[H.out];rfl,rfl⟩
 ·subst h
  have H:=Hd (show Nm.sgn x x=0 by unfold Nm.sgn;rw[if_neg (by omega),if_neg (by omega)])
  go_enter Tryz.func133,Tryz.ntmps133
  go_wp2_with (go_at_call 141;refine (isNaNU_any _ _).mono ?_;rintro e w1 ⟨rfl,rfl⟩)
  go_ret
  exact⟨by rw[H.out];rfl,rfl⟩
 ·have H:=Hd (show Nm.sgn x y=1 by unfold Nm.sgn;rw[if_neg (by omega),if_pos h])
  go_enter Tryz.func133,Tryz.ntmps133
  go_wp2_with (go_at_call 141;refine (isNaNU_any _ _).mono ?_;rintro e w1 ⟨rfl,rfl⟩)
  go_ret
  exact⟨by rw[H.out];rfl,rfl⟩
def BtRd (v:Value) (l:List UInt8) (W:World):Prop:=Sl v (l.map fun b:UInt8=>Value.int .u8 (b.toNat:Int)) W
theorem addr_next (a:Addr) (j:Nat):(a.add 1).add j=a.add (j+1):=by rw[add_add',Nat.add_comm]
theorem run_loadBytes (W:World):∀(l:List UInt8) (a:Addr) (acc:ByteArray),(∀j (h:j<l.length),W.cell? (a.add j)=some (.int .u8 (l[j].toNat:Int))) ->
  (Extern.Bytes.loadBytes a l.length acc).run Tryz.prog W=.ok ⟨acc.data++l.toArray⟩ W
 | [],a,acc,_=>by
  have e:(⟨acc.data++([]:List UInt8).toArray⟩:ByteArray)=acc:=by cases acc;simp
  rw[e];rfl
 | b::l,a,acc,h=>by
  have h0:=h 0 (by simp)
  have hl:(load a).run Tryz.prog W=.ok (.int .u8 (b.toNat:Int)) W:=by
   have:a.add 0=a:=rfl
   rw[this] at h0;simp only[List.getElem_cons_zero] at h0;simp[load,Sem.run,h0]
  have ih:=run_loadBytes W l (a.add 1) (acc.push b) (fun j hj=>by
   have:=h (j+1) (by simp;omega)
   rw[addr_next];simpa using this)
  have e1:(b.toNat:Int).toNat.toUInt8=b:=by simp
  have e2:(⟨(acc.push b).data++l.toArray⟩:ByteArray)=⟨acc.data++(b::l).toArray⟩:=by
   cases acc;simp[ByteArray.push]
  show Sem.run Tryz.prog (do match <-load a with
   | .int .u8 b=>Extern.Bytes.loadBytes (a.add 1) l.length (acc.push b.toNat.toUInt8)
   | _ => stuck "loadBytes: a byte expected") W = _
  rw[Sem.run_bind,hl];simp only[Result.andThen];rw[e1,ih,e2]
theorem run_bytesOf {v l} {W:World} (h:BtRd v l W):(Extern.Bytes.bytesOf v).run Tryz.prog W=.ok ⟨l.toArray⟩ W:=by
 obtain⟨o,cap,h1,h2,h3,h4,h5⟩:=h;rw[h1];rcases o with _|a
 ·have:l=[]:=by
   have:=h4 rfl
   rw[Zf] at h2;exact List.length_eq_zero_iff.1 (by omega)
  subst this;rfl
 ·rw[Zf]
  show (Extern.Bytes.loadBytes a l.length .empty).run Tryz.prog W=_;rw[run_loadBytes W l a .empty (fun j hj=>by
   obtain⟨a',e,hc⟩:=h5 j (by simpa using hj)
   cases e;simpa using hc)]
  have he:ByteArray.empty.data=#[]:=rfl;rw[he,Array.empty_append]
theorem run_compareBytes {v u:Value} {a b:List UInt8} {W:World} (hv:BtRd v a W) (hu:BtRd u b W):(Extern.BytealgCompare.compare #[v,u]).run Tryz.prog W=.ok (.int .i64 (Lib.compareBytes a b)) W:=by
 change Sem.run Tryz.prog (do pure (goInt (Extern.BytealgCompare.cmp (<-Extern.Bytes.bytesOf v) (<-Extern.Bytes.bytesOf u)))) W=_
 rw[Sem.run_bind,run_bytesOf hv];simp only[Result.andThen];rw[Sem.run_bind,run_bytesOf hu];simp only[Result.andThen,Sem.run_pure];rw[Lib.cmp_eq];rfl
set_option maxHeartbeats 1000000 in
theorem bytesCompare_any (v u:Value) (a b:List UInt8) (w:World) (hv:BtRd v a w) (hu:BtRd u b w):Calls Tryz.prog 135 #[v,u] w fun e w'=>e=.returned (.int .i64 (Lib.compareBytes a b))/\w=w':=by
 have HR:=Hd (run_compareBytes hv hu);clear hv hu
 go_enter Tryz.func135,Tryz.ntmps135
 go_wp2
 rw[run_callFunc_extern Tryz.func143 (by kernel_rfl) (by kernel_rfl) (by kernel_rfl) (e:=Extern.BytealgCompare.compare) (by kernel_rfl),HR.out]
 simp only[Result.andThen];rw[Oper.upon_value];go_wp2
 go_ret
 exact⟨rfl,rfl⟩
def Rc.firstI:List Int->Int
 | []=>0
 | x::l=>if x≠0 then x else Rc.firstI l
set_option maxHeartbeats 1000000 in
theorem cmpOr_any (v:Value) (l:List Int) (w:World) (hv:Sl v (l.map fun n:Int=>Value.int .i64 n) w) (hn:l.length<=1000000):Calls Tryz.prog 33 #[v] w fun e w'=>e=.returned (.int .i64 (Rc.firstI l))/\w=w':=by
 obtain⟨o,cap,rfl,h1,h2⟩:=hv.form;have HC:=Hd hv.cells;rw[Zf] at h1 ⊢;have nl:(l.length:Int)<=1000000:=by omega
 clear hv hn h1 h2
 go_enter Tryz.func33,Tryz.ntmps33
 go_wp2
 go_loopw [8] (fun i wr=>∃k:Nat,Hid (k<=l.length/\Rc.firstI l=Rc.firstI (l.drop k))/\i=.int .i64 k/\w=wr) (fun i _=>l.length-(intOf i).toNat)
 case atStart=>exact⟨0,⟨by omega,rfl⟩,rfl,rfl⟩
 case round =>
  obtain⟨k,hto,rfl,rfl⟩:=hrel;by_cases hlt:k<l.length
  ·have hltz:(k:Int)<(l.length:Int):=by omega
   obtain⟨x,rfl,e1⟩:=HC.out _ (Below.refl _ _) k (by rw[Zf];exact hlt)
   rw[List.getElem_map] at e1;obtain⟨z,hz⟩:=Zq (l[k]);rw[hz] at e1;have HZ:Hid (Rc.firstI (l.drop k)=if z≠0 then z else Rc.firstI (l.drop (k+1))):=by rw[Zy hlt,hz];rfl
   clear hz;by_cases h0:z=0
   ·subst h0
    go_wp2_with fail
    refine⟨⟨k+1,⟨hlt,?_⟩,by go_num,by first|rfl|trivial⟩,by simp[intOf];omega⟩
    rw[hto.out.2,HZ.out,if_neg (by simp)]
   ·have hz':(z != 0)=true:=by simpa using h0
    have HF:Hid (Rc.firstI l=z):=by show _=_;rw[hto.out.2,HZ.out,if_pos h0]
    clear h0;go_wp2_with fail
    go_ret
    exact⟨by rw[HF.out];rfl,rfl⟩
  ·have hltz:¬((k:Int)<(l.length:Int)):=by omega
   have HF:Hid (Rc.firstI l=0):=by show _=_;rw[hto.out.2,Zz (by omega)];rfl
   go_wp2_with fail
   go_ret
   exact⟨by rw[HF.out];rfl,rfl⟩
end
section
open Go.RowKit Go.Shelf
def NmsRd (v:Value) (ns:List (List (List UInt8))) (W:World):Prop:=∃us,us.length=ns.length/\Sl v us W/\∀i (h:i<us.length) (h':i<ns.length),Rd us[i] ns[i] W
theorem NmsRd.below {v ns} {W W':World} (h:NmsRd v ns W) (hb:Below W.heap.size W W'):NmsRd v ns W':=by
 obtain⟨us,h1,h2,h3⟩:=h;exact⟨us,h1,h2.below hb,fun i hi hi'=>(h3 i hi hi').below hb⟩
def numC (ns:List Nat):List Value:=ns.map fun n:Nat=>Value.int .u32 (n:Int)
def DatRd (vs:List Value) (r:Rc.PRec) (W:World):Prop :=
 ∃vn vm vt vr,vs=[.int .i64 r.type,vn,vm,vt,vr]/\NmsRd vn r.names W/\Sl vm (numC r.nums) W/\Rd vt r.texts W/\BtRd vr r.raw W
theorem DatRd.below {vs r} {W W':World} (h:DatRd vs r W) (hb:Below W.heap.size W W'):DatRd vs r W':=by
 obtain⟨vn,vm,vt,vr,h1,h2,h3,h4,h5⟩:=h;exact⟨vn,vm,vt,vr,h1,h2.below hb,h3.below hb,h4.below hb,Sl.below h5 hb⟩
def RecRd (vs:List Value) (r:Rc.PRec) (W:World):Prop:=∃vo ds,vs=vo::.int .u32 (r.ttl:Int)::ds/\Rd vo r.owner W/\DatRd ds r W
theorem RecRd.below {vs r} {W W':World} (h:RecRd vs r W) (hb:Below W.heap.size W W'):RecRd vs r W':=by
 obtain⟨vo,ds,h1,h2,h3⟩:=h;exact⟨vo,ds,h1,h2.below hb,h3.below hb⟩
structure RB (r:Rc.PRec):Prop where
 owner:NB r.owner
 names:r.names.length<=1000/\∀n∈r.names,NB n
 nums:r.nums.length<=1000/\∀n∈r.nums,n<4294967296
 texts:r.texts.length<=1000
 ttl:r.ttl<4294967296
theorem Sl.built (w:World) (cs:List Value) (t:TypeId) (hc:cs.length<=maxLen):Sl (.slice (some ⟨w.heap.size,0,none⟩) cs.length cs.length) cs (w.alloc (.cells cs.toArray t)):=by
 refine⟨_,_,rfl,Zh _,hc,(fun h=>by cases h),fun j hj=>⟨_,rfl,?_⟩⟩
 have hadd:(⟨w.heap.size,0,none⟩:Addr).add j=⟨w.heap.size,j,none⟩:=by unfold Addr.add;split<;>simp_all
 rw[hadd,cell_of_row (w.alloc (.cells cs.toArray t)) w.heap.size j _ t (0,0) (World.alloc_heap_new w _)];simp[hj]
def Bx5 (g:Nat) (c0 c1 c2 c3 c4:Value) (W:World):Prop :=
 W.cell? ⟨g,0,none⟩=some c0/\W.cell? ⟨g,1,none⟩=some c1/\W.cell? ⟨g,2,none⟩=some c2/\W.cell? ⟨g,3,none⟩=some c3/\W.cell? ⟨g,4,none⟩=some c4
theorem Bx5.below {g c0 c1 c2 c3 c4} {W W':World} (h:Bx5 g c0 c1 c2 c3 c4 W) (hb:Below W.heap.size W W'):Bx5 g c0 c1 c2 c3 c4 W':=by
 obtain⟨h0,h1,h2,h3,h4⟩:=h;exact⟨(hb.cell (zG h0)).trans h0,(hb.cell (zG h1)).trans h1,(hb.cell (zG h2)).trans h2,(hb.cell (zG h3)).trans h3,(hb.cell (zG h4)).trans h4⟩
theorem Rc.cmpD_first (a b:Rc.PRec):Rc.cmpD a b=Rc.firstI [Nm.sgn a.type b.type,Rc.row Nm.cmp a.names b.names,Rc.row (fun x y:Nat=>Nm.sgn x y) a.nums b.nums,Rc.row Lib.compareBytes a.texts b.texts,Lib.compareBytes a.raw b.raw]:=by
 have h0:∀x:Int,Rc.firstI [x]=x:=fun x=>by simp only[Rc.firstI];split<;>omega
 unfold Rc.cmpD Rc.orI;rw[Rc.firstI,Rc.firstI,Rc.firstI,Rc.firstI,h0]
theorem Rc.cmp_first (a b:Rc.PRec):Rc.cmp a b=Rc.firstI [Nm.cmp a.owner b.owner,Nm.sgn a.type b.type,Rc.cmpD a b]:=by
 have h0:∀x:Int,Rc.firstI [x]=x:=fun x=>by simp only[Rc.firstI];split<;>omega
 unfold Rc.cmp Rc.orI;rw[Rc.firstI,Rc.firstI,h0]
theorem two_boxes (w:World) (c d:Array Value) (t t':TypeId):((w.alloc (.cells c t)).alloc (.cells d t')).drew.heap[w.heap.size]? = some (.cells c t (0,0))/\((w.alloc (.cells c t)).alloc (.cells d t')).drew.heap[w.heap.size+1]? = some (.cells d t' (0,0)):=by
 constructor
 ·show ((w.heap.push _).push _)[w.heap.size]? = _
  simp[Array.getElem?_push]
 ·show ((w.heap.push _).push _)[w.heap.size+1]? = _
  rw[Array.getElem?_push,if_pos (by simp)]
theorem Bx5.of {W:World} {g:Nat} {c0 c1 c2 c3 c4:Value} {t:TypeId} (h:W.heap[g]? = some (.cells #[c0,c1,c2,c3,c4] t (0,0))):Bx5 g c0 c1 c2 c3 c4 W:=by
 refine⟨?_,?_,?_,?_,?_⟩<;>rw[cell_of_row W g _ _ _ _ h]<;>rfl
theorem eg_name (args:Array Value) (w:World):(callFunc 34 args).run Tryz.prog w=.ok (.enter 34 args) w:=by simp[go_sem]
theorem eg_cmpU (args:Array Value) (w:World):(callFunc 133 args).run Tryz.prog w=.ok (.enter 133 args) w:=by simp[go_sem]
theorem eg_strs (args:Array Value) (w:World):(callFunc 92 args).run Tryz.prog w=.ok (.enter 92 args) w:=by simp[go_sem]
theorem cmpNames {v u:Value} {a b:List (List (List UInt8))} {w:World} (hv:NmsRd v a w) (hu:NmsRd u b w) (ha:a.length<=1000/\∀n∈a,NB n) (hb:b.length<=1000/\∀n∈b,NB n) :
  Calls Tryz.prog 131 #[v,u,.func (.func 34) #[] #[]] w (Gives (.int .i64 (Rc.row Nm.cmp a b)) w):=by
 obtain⟨us,l1,s1,r1⟩:=hv;obtain⟨vs,l2,s2,r2⟩:=hu;refine names_row Nm.cmp a b us vs v u w _ eg_name s1 s2 l1 l2 (by omega) (by omega) (fun wr hwr k h1 h2 h3 h4=>?_)
 exact nCompare_any _ _ _ _ _ ((r1 k h1 h3).below hwr) ((r2 k h2 h4).below hwr) (ha.2 _ (List.getElem_mem _)) (hb.2 _ (List.getElem_mem _))
theorem cmpNums {v u:Value} {a b:List Nat} {w:World} (hv:Sl v (numC a) w) (hu:Sl u (numC b) w) (ha:a.length<=1000) (hb:b.length<=1000) :
  Calls Tryz.prog 132 #[v,u,.func (.func 133) #[] #[]] w (Gives (.int .i64 (Rc.row (fun x y:Nat=>Nm.sgn x y) a b)) w):=by
 refine nums_row (fun x y:Nat=>Nm.sgn x y) a b (numC a) (numC b) v u w _ eg_cmpU hv hu (by simp[numC]) (by simp[numC]) (by omega) (by omega) (fun wr hwr k h1 h2 h3 h4=>?_)
 simp only[numC,List.getElem_map];refine (cmpU_any _ _ _).mono ?_;rintro e w1 ⟨rfl,rfl⟩;exact⟨rfl,Below.refl _ _⟩
theorem cmpTexts {v u:Value} {a b:List (List UInt8)} {w:World} (hv:Rd v a w) (hu:Rd u b w) (ha:a.length<=1000) (hb:b.length<=1000) :
  Calls Tryz.prog 134 #[v,u,.func (.func 92) #[] #[]] w (Gives (.int .i64 (Rc.row Lib.compareBytes a b)) w):=by
 refine texts_row Lib.compareBytes a b (a.map S) (b.map S) v u w _ eg_strs hv.sl hu.sl (by simp) (by simp) (by omega) (by omega) (fun wr hwr k h1 h2 h3 h4=>?_)
 simp only[List.getElem_map];refine (Tryz.strings_Compare _ _ _).mono ?_;rintro e w1 ⟨rfl,rfl⟩;exact⟨rfl,Below.refl _ _⟩
set_option maxHeartbeats 4000000 in
theorem rdCompare_any (va vb:List Value) (a b:Rc.PRec) (w:World) (ha:DatRd va a w) (hb:DatRd vb b w) (na:RB a) (nb:RB b) :
  Calls Tryz.prog 119 #[.agg va.toArray,.agg vb.toArray] w (Gives (.int .i64 (Rc.cmpD a b)) w):=by
 obtain⟨an,am,at',ar,rfl,a1,a2,a3,a4⟩:=ha;obtain⟨bn,bm,bt,br,rfl,b1,b2,b3,b4⟩:=hb;obtain⟨z1,hz1⟩:=Zq (Nm.sgn a.type b.type);obtain⟨z2,hz2⟩:=Zq (Rc.row Nm.cmp a.names b.names);obtain⟨z3,hz3⟩:∃z,Rc.row (fun x y:Nat=>Nm.sgn x y) a.nums b.nums=z:=⟨_,rfl⟩
 obtain⟨z4,hz4⟩:=Zq (Rc.row Lib.compareBytes a.texts b.texts);obtain⟨z5,hz5⟩:=Zq (Lib.compareBytes a.raw b.raw);have hr:=Rc.cmpD_first a b;rw[hz1,hz2,hz3,hz4,hz5] at hr;have HR:=Hd hr;have HZ:=Hd (And.intro hz1 (And.intro hz2 (And.intro hz3 (And.intro hz4 hz5))));have A1:=Hd a1;have A2:=Hd a2;have A3:=Hd a3;have A4:=Hd a4;have B1:=Hd b1;have B2:=Hd b2;have B3:=Hd b3;have B4:=Hd b4;have NA:=Hd na;have NB':=Hd nb;obtain⟨ta,hta⟩:=Zq a.type;obtain⟨tb,htb⟩:=Zq b.type;have HT:=Hd (And.intro hta htb);rw[hta,htb];clear a1 a2 a3 a4 b1 b2 b3 b4 na nb hr hz1 hz2 hz3 hz4 hz5 hta htb;refine (zF (n:=0)).1 ?_;refine callsIn_of_wp Tryz.func119 rfl trivial ?_ rfl;simp only[Tryz.ntmps119,Zo,Ze,Zg,Nat.reduceAdd,Nat.reduceSub,Zi,Zj,Zk,Zl,Zm,Zp];gi_wp2_with fail
 refine Z8 [1,3,4,6,8,9,11,13,14,16,18,19,21,23,24,25,26] (fun w'=>Bx5 w.heap.size (.int .i64 ta) an am at' ar w'/\Bx5 (w.heap.size+1) (.int .i64 tb) bn bm bt br w') 28 rfl (by kernel_rfl) ?_
 intro w' hw';have hS:Bx5 w.heap.size (.int .i64 ta) an am at' ar w'/\Bx5 (w.heap.size+1) (.int .i64 tb) bn bm bt br w':=by
  have:=two_boxes w #[.int .i64 ta,an,am,at',ar] #[.int .i64 tb,bn,bm,bt,br] 107 107
  subst hw';exact⟨Bx5.of this.1,Bx5.of this.2⟩
 have hb:Below w.heap.size w w':=by subst hw';exact ((Zr).alloc (by simp) _).drew
 clear hw';refine tB 0 ?_;refine tB 2 ?_;refine tB 5 ?_;refine tB 7 ?_;refine tB 10 ?_;refine tB 12 ?_;refine tB 15 ?_;refine tB 17 ?_;refine tB 20 ?_;refine tB 22 ?_;refine tH 1 ?qv1 hS (fun w1 ⟨⟨c0,c1,c2,c3,c4⟩,d0,d1,d2,d3,d4⟩=>?qy1) ?_
 case qy1=>go_simp;try rfl
 refine tH 3 ?qv3 hS (fun w1 ⟨⟨c0,c1,c2,c3,c4⟩,d0,d1,d2,d3,d4⟩=>?qy3) ?_
 case qy3=>go_simp;try rfl
 refine tH 6 ?qv6 hS (fun w1 ⟨⟨c0,c1,c2,c3,c4⟩,d0,d1,d2,d3,d4⟩=>?qy6) ?_
 case qy6=>go_simp;try rfl
 refine tH 8 ?qv8 hS (fun w1 ⟨⟨c0,c1,c2,c3,c4⟩,d0,d1,d2,d3,d4⟩=>?qy8) ?_
 case qy8=>go_simp;try rfl
 refine tH 11 ?qv11 hS (fun w1 ⟨⟨c0,c1,c2,c3,c4⟩,d0,d1,d2,d3,d4⟩=>?qy11) ?_
 case qy11=>go_simp;try rfl
 refine tH 13 ?qv13 hS (fun w1 ⟨⟨c0,c1,c2,c3,c4⟩,d0,d1,d2,d3,d4⟩=>?qy13) ?_
 case qy13=>go_simp;try rfl
 refine tH 16 ?qv16 hS (fun w1 ⟨⟨c0,c1,c2,c3,c4⟩,d0,d1,d2,d3,d4⟩=>?qy16) ?_
 case qy16=>go_simp;try rfl
 refine tH 18 ?qv18 hS (fun w1 ⟨⟨c0,c1,c2,c3,c4⟩,d0,d1,d2,d3,d4⟩=>?qy18) ?_
 case qy18=>go_simp;try rfl
 refine tH 21 ?qv21 hS (fun w1 ⟨⟨c0,c1,c2,c3,c4⟩,d0,d1,d2,d3,d4⟩=>?qy21) ?_
 case qy21=>go_simp;try rfl
 refine tH 23 ?qv23 hS (fun w1 ⟨⟨c0,c1,c2,c3,c4⟩,d0,d1,d2,d3,d4⟩=>?qy23) ?_
 case qy23=>go_simp;try rfl
 simp only[Act.put,Za,Zd,Zc];refine oneH 4 (by rfl) (by kernel_rfl) (fun K hK=>?_)
 gi_wp2_with (gi_at_call 35;refine (callsIn_wide.2 (cmpInt_any _ _ _)).mono ?_;rintro e w1 ⟨rfl,rfl⟩;rw[show Nm.sgn ta tb=z1 by rw[<-HT.out.1,<-HT.out.2];exact HZ.out.1])
 refine hK _ _ (fun _=>hS) ?_
 clear hK K;refine oneH 9 (by rfl) (by kernel_rfl) (fun K hK=>?_)
 gi_wp2_with (gi_at_call 131;refine (callsIn_wide.2 (cmpNames (A1.out.below hb) (B1.out.below hb) NA.out.names NB'.out.names)).mono ?_;rintro e w2 ⟨rfl,b2⟩;rw[HZ.out.2.1])
 have hS2:=And.intro (hS.1.below b2) (hS.2.below b2);have hb2:=Z5 hb b2;clear hS hb b2;refine hK _ _ (fun _=>hS2) ?_
 clear hK K;refine oneH 14 (by rfl) (by kernel_rfl) (fun K hK=>?_)
 gi_wp2_with (gi_at_call 132;refine (callsIn_wide.2 (cmpNums (A2.out.below hb2) (B2.out.below hb2) NA.out.nums.1 NB'.out.nums.1)).mono ?_;rintro e w3 ⟨rfl,b3⟩;rw[HZ.out.2.2.1])
 have hS3:=And.intro (hS2.1.below b3) (hS2.2.below b3);have hb3:=Z5 hb2 b3;clear hS2 hb2 b3;refine hK _ _ (fun _=>hS3) ?_
 clear hK K;refine oneH 19 (by rfl) (by kernel_rfl) (fun K hK=>?_)
 gi_wp2_with (gi_at_call 134;refine (callsIn_wide.2 (cmpTexts (A3.out.below hb3) (B3.out.below hb3) NA.out.texts NB'.out.texts)).mono ?_;rintro e w4 ⟨rfl,b4⟩;rw[HZ.out.2.2.2.1])
 have hS4:=And.intro (hS3.1.below b4) (hS3.2.below b4);have hb4:=Z5 hb3 b4;clear hS3 hb3 b4;refine hK _ _ (fun _=>hS4) ?_
 clear hK K;refine oneH 24 (by rfl) (by kernel_rfl) (fun K hK=>?_)
 gi_wp2_with (gi_at_call 135;refine (callsIn_wide.2 (bytesCompare_any _ _ _ _ _ (Sl.below A4.out hb4) (Sl.below B4.out hb4))).mono ?_;rintro e w5 ⟨rfl,rfl⟩;rw[HZ.out.2.2.2.2])
 refine hK _ _ (fun _=>hS4) ?_
 clear hK K;refine oneH 25 (by rfl) (by kernel_rfl) (fun K hK=>?_)
 gi_wp2_with fail
 refine hK _ _ (fun _=>⟨hS4.1.below (Zr),hS4.2.below (Zr)⟩) ?_
 clear hK K;have hsl:=Sl.built w4 ([z1,z2,z3,z4,z5].map fun n:Int=>Value.int .i64 n) 3 (by simp;unfold maxLen;omega)
 have hb5:=hb4.alloc hb4.size (.cells ([z1,z2,z3,z4,z5].map fun n:Int=>Value.int .i64 n).toArray 3)
 refine oneH 26 (by rfl) (by kernel_rfl) (fun K hK=>?_)
 gi_wp2_with (gi_at_call 33;refine (callsIn_wide.2 (cmpOr_any _ [z1,z2,z3,z4,z5] _ hsl (by simp))).mono ?_;rintro e w6 ⟨rfl,rfl⟩;rw[<-HR.out])
 refine hK _ _ (fun _=>⟨hS4.1.below (Zr),hS4.2.below (Zr)⟩) ?_
 clear hK K;refine oneH 27 (by rfl) (by kernel_rfl) (fun K hK=>?_)
 gi_wp2_with fail
 refine hK _ _ (fun h=>absurd h (by decide)) ?_
 clear hK K;refine Z9 (by kernel_rfl) ?_
 gi_wp2_with fail
 go_ret
 exact⟨rfl,hb5⟩
def Bx7 (g:Nat) (c0 c1 c2 c3 c4 c5 c6:Value) (W:World):Prop :=
 W.cell? ⟨g,0,none⟩=some c0/\W.cell? ⟨g,1,none⟩=some c1/\W.cell? ⟨g,2,none⟩=some c2/\W.cell? ⟨g,3,none⟩=some c3/\W.cell? ⟨g,4,none⟩=some c4/\W.cell? ⟨g,5,none⟩=some c5/\W.cell? ⟨g,6,none⟩=some c6
theorem Bx7.below {g c0 c1 c2 c3 c4 c5 c6} {W W':World} (h:Bx7 g c0 c1 c2 c3 c4 c5 c6 W) (hb:Below W.heap.size W W'):Bx7 g c0 c1 c2 c3 c4 c5 c6 W':=by
 obtain⟨h0,h1,h2,h3,h4,h5,h6⟩:=h;exact⟨(hb.cell (zG h0)).trans h0,(hb.cell (zG h1)).trans h1,(hb.cell (zG h2)).trans h2,(hb.cell (zG h3)).trans h3,(hb.cell (zG h4)).trans h4,(hb.cell (zG h5)).trans h5,(hb.cell (zG h6)).trans h6⟩
theorem Bx7.of {W:World} {g:Nat} {c0 c1 c2 c3 c4 c5 c6:Value} {t:TypeId} (h:W.heap[g]? = some (.cells #[c0,c1,c2,c3,c4,c5,c6] t (0,0))):Bx7 g c0 c1 c2 c3 c4 c5 c6 W:=by
 refine⟨?_,?_,?_,?_,?_,?_,?_⟩<;>rw[cell_of_row W g _ _ _ _ h]<;>rfl
set_option maxHeartbeats 4000000 in
theorem recCompare_any (va vb:List Value) (a b:Rc.PRec) (w:World) (ha:RecRd va a w) (hb:RecRd vb b w) (na:RB a) (nb:RB b) :
  Calls Tryz.prog 94 #[.agg va.toArray,.agg vb.toArray] w (Gives (.int .i64 (Rc.cmp a b)) w):=by
 obtain⟨ao,ad,rfl,a0,hda⟩:=ha;obtain⟨bo,bd,rfl,b0,hdb⟩:=hb;have HDA:=Hd hda;have HDB:=Hd hdb;obtain⟨an,am,at',ar,rfl,_⟩:=hda;obtain⟨bn,bm,bt,br,rfl,_⟩:=hdb;obtain⟨z1,hz1⟩:=Zq (Nm.cmp a.owner b.owner);obtain⟨z2,hz2⟩:=Zq (Nm.sgn a.type b.type);obtain⟨z3,hz3⟩:=Zq (Rc.cmpD a b);have hr:=Rc.cmp_first a b;rw[hz1,hz2,hz3] at hr;have HR:=Hd hr;have HZ:=Hd (And.intro hz1 (And.intro hz2 hz3));have A0:=Hd a0;have B0:=Hd b0;have NA:=Hd na;have NB':=Hd nb;clear a0 b0 na nb hr hz1 hz2 hz3;refine (zF (n:=0)).1 ?_;refine callsIn_of_wp Tryz.func94 rfl trivial ?_ rfl;simp only[Tryz.ntmps94,Zo,Ze,Zg,Nat.reduceAdd,Nat.reduceSub,Zi,Zj,Zk,Zl,Zm,Zp];gi_wp2_with fail
 refine Z8 [1,3,4,7,10,11,13,15,16,17,18] (fun w'=>Bx7 w.heap.size ao (.int .u32 (a.ttl:Int)) (.int .i64 a.type) an am at' ar w'/\Bx7 (w.heap.size+1) bo (.int .u32 (b.ttl:Int)) (.int .i64 b.type) bn bm bt br w') 20 rfl (by kernel_rfl) ?_
 intro w' hw';have hS:Bx7 w.heap.size ao (.int .u32 (a.ttl:Int)) (.int .i64 a.type) an am at' ar w'/\Bx7 (w.heap.size+1) bo (.int .u32 (b.ttl:Int)) (.int .i64 b.type) bn bm bt br w':=by
  have:=two_boxes w #[ao,.int .u32 (a.ttl:Int),.int .i64 a.type,an,am,at',ar] #[bo,.int .u32 (b.ttl:Int),.int .i64 b.type,bn,bm,bt,br] 110 110
  subst hw';exact⟨Bx7.of this.1,Bx7.of this.2⟩
 have hb:Below w.heap.size w w':=by subst hw';exact ((Zr).alloc (by simp) _).drew
 clear hw';refine tB 0 ?_;refine tB 2 ?_;refine tB 5 ?_;refine tB 6 ?_;refine tB 8 ?_;refine tB 9 ?_;refine tB 12 ?_;refine tB 14 ?_;refine tH 1 ?qv1 hS (fun w1 ⟨⟨c0,c1,c2,c3,c4,c5,c6⟩,d0,d1,d2,d3,d4,d5,d6⟩=>?qy1) ?_
 case qy1=>go_simp;try rfl
 refine tH 3 ?qv3 hS (fun w1 ⟨⟨c0,c1,c2,c3,c4,c5,c6⟩,d0,d1,d2,d3,d4,d5,d6⟩=>?qy3) ?_
 case qy3=>go_simp;try rfl
 refine tH 7 ?qv7 hS (fun w1 ⟨⟨c0,c1,c2,c3,c4,c5,c6⟩,d0,d1,d2,d3,d4,d5,d6⟩=>?qy7) ?_
 case qy7=>go_simp;try rfl
 refine tH 10 ?qv10 hS (fun w1 ⟨⟨c0,c1,c2,c3,c4,c5,c6⟩,d0,d1,d2,d3,d4,d5,d6⟩=>?qy10) ?_
 case qy10=>go_simp;try rfl
 refine tH 13 ?qv13 hS (fun w1 ⟨⟨c0,c1,c2,c3,c4,c5,c6⟩,d0,d1,d2,d3,d4,d5,d6⟩=>?qy13) ?_
 case qy13=>go_simp;try rfl
 refine tH 15 ?qv15 hS (fun w1 ⟨⟨c0,c1,c2,c3,c4,c5,c6⟩,d0,d1,d2,d3,d4,d5,d6⟩=>?qy15) ?_
 case qy15=>go_simp;try rfl
 simp only[Act.put,Za,Zd,Zc];refine oneH 4 (by rfl) (by kernel_rfl) (fun K hK=>?_)
 gi_wp2_with (gi_at_call 34;refine (callsIn_wide.2 (nCompare_any _ _ _ _ _ (A0.out.below hb) (B0.out.below hb) NA.out.owner NB'.out.owner)).mono ?_;rintro e w2 ⟨rfl,b2⟩;rw[HZ.out.1])
 have hS2:=And.intro (hS.1.below b2) (hS.2.below b2);have hb2:=Z5 hb b2;clear hS hb b2;refine hK _ _ (fun _=>hS2) ?_
 clear hK K;refine oneH 11 (by rfl) (by kernel_rfl) (fun K hK=>?_)
 gi_wp2_with (gi_at_call 35;refine (callsIn_wide.2 (cmpInt_any _ _ _)).mono ?_;rintro e w1 ⟨rfl,rfl⟩;rw[HZ.out.2.1])
 refine hK _ _ (fun _=>hS2) ?_
 clear hK K;refine oneH 16 (by rfl) (by kernel_rfl) (fun K hK=>?_)
 gi_wp2_with (gi_at_call 119;refine (callsIn_wide.2 (rdCompare_any [.int .i64 a.type,an,am,at',ar] [.int .i64 b.type,bn,bm,bt,br] a b _ (HDA.out.below hb2) (HDB.out.below hb2) NA.out NB'.out)).mono ?_;rintro e w3 ⟨rfl,b3⟩;rw[HZ.out.2.2])
 have hS3:=And.intro (hS2.1.below b3) (hS2.2.below b3);have hb3:=Z5 hb2 b3;clear hS2 hb2 b3;refine hK _ _ (fun _=>hS3) ?_
 clear hK K;refine oneH 17 (by rfl) (by kernel_rfl) (fun K hK=>?_)
 gi_wp2_with fail
 refine hK _ _ (fun _=>⟨hS3.1.below (Zr),hS3.2.below (Zr)⟩) ?_
 clear hK K;have hsl:=Sl.built w3 ([z1,z2,z3].map fun n:Int=>Value.int .i64 n) 3 (by simp;unfold maxLen;omega)
 have hb5:=hb3.alloc hb3.size (.cells ([z1,z2,z3].map fun n:Int=>Value.int .i64 n).toArray 3)
 refine oneH 18 (by rfl) (by kernel_rfl) (fun K hK=>?_)
 gi_wp2_with (gi_at_call 33;refine (callsIn_wide.2 (cmpOr_any _ [z1,z2,z3] _ hsl (by simp))).mono ?_;rintro e w6 ⟨rfl,rfl⟩;rw[<-HR.out])
 refine hK _ _ (fun _=>⟨hS3.1.below (Zr),hS3.2.below (Zr)⟩) ?_
 clear hK K;refine oneH 19 (by rfl) (by kernel_rfl) (fun K hK=>?_)
 gi_wp2_with fail
 refine hK _ _ (fun h=>absurd h (by decide)) ?_
 clear hK K;refine Z9 (by kernel_rfl) ?_
 gi_wp2_with fail
 go_ret
 exact⟨rfl,hb5⟩
end
end Go.Proofs.YtgmbefolgppmdaaGreat
