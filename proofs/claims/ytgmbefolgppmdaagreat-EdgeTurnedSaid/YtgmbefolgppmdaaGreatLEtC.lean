/- EdgeTurned: the turned Net, while it is made. -/
import Derived.Test.YtgmbefolgppmdaaGreatLEtA
import Derived.Test.YtgmbefolgppmdaaGreatLEhB
import Derived.Test.YtgmbefolgppmdaaGreatLAli
import Derived.Test.YtgmbefolgppmdaaGreatLEgY
import Derived.Test.YtgmbefolgppmdaaGreatLEgL
import Derived.Test.YtgmbefolgppmdaaGreatLReg
namespace Go.Proofs.YtgmbefolgppmdaaGreat
open Go.RowKit Go.Shelf Go.Sort
set_option maxRecDepth 100000
section
def rotL {α:Type} (l:List α) (t:Nat):List α:=if l.length=0 then l else l.drop (t % l.length)++l.take (t % l.length)
theorem rotL_len {α:Type} (l:List α) (t:Nat):(rotL l t).length=l.length:=by
 unfold rotL;split
 ·rfl
 ·rw[Zb,List.length_drop,List.length_take]
  have:=Nat.mod_lt t (show l.length > 0 by omega)
  omega
theorem rotL_mem {α:Type} (l:List α) (t:Nat) (x:α):x∈rotL l t ↔ x∈l:=by
 unfold rotL;split
 ·exact Iff.rfl
 ·rw[List.mem_append,or_comm]
  conv=>rhs;rw[<-List.take_append_drop (t % l.length) l,List.mem_append]
theorem rotL_map {α β:Type} (f:α->β) (l:List α) (t:Nat):(rotL l t).map f=rotL (l.map f) t:=by
 unfold rotL;rw[Zf];split
 ·rfl
 ·rw[List.map_append,List.map_drop,List.map_take]
theorem flat_setK {k:Nat}:∀(css:List (List Value)) (i c:Nat) (u:Value),(∀x∈css,x.length=k)->(hi:i<css.length)->c<k->css.flatten.set (i*k+c) u=(css.set i (css[i].set c u)).flatten
 | x::l,0,c,u,h,_,hc=>by
  have hx:=h x Zu;simp only[List.flatten_cons,Nat.zero_mul,Nat.zero_add,Zc,List.getElem_cons_zero];rw[List.set_append,if_pos (by omega)]
 | x::l,i+1,c,u,h,hi,hc=>by
  have hx:=h x Zu;have ih:=flat_setK l i c u (fun y hy=>h y (Zv _ hy)) (by simpa using hi) hc
  simp only[List.flatten_cons,Zd,List.getElem_cons_succ];rw[List.set_append,if_neg (by rw[Nat.add_mul];omega),show (i+1)*k+c-x.length=i*k+c by rw[hx,Nat.add_mul];omega,ih]
section
variable {w:World}
def tcs (h:HE w) (vz:Value):List Value:=[h.vn,.int .u8 h.a0,.int .u8 h.a1,.int .u8 h.a2,.int .u8 h.a3,vz]
def TzC (t:Nat) (h:HE w) (vz:Value) (W:World):Prop:=(h.zones.length=0/\vz=h.vz)\/Row (fun _=>True) 54 2 vz h.zones.length ((rotL h.zones t).map encZ).flatten W
structure TuM (hs:List (HE w)) (t B i:Nat) (css:List (List Value)) (vm:Value) (W:World):Prop where
 row:Row (fun g=>B<=g) 42 6 vm hs.length css.flatten W
 len:css.length=hs.length
 done:∀j (h1:j<css.length) (h2:j<hs.length),j<i->∃vz,css[j]=tcs hs[j] vz/\TzC t hs[j] vz W
 todo:∀j (h1:j<css.length) (h2:j<hs.length),i<=j->css[j]=encHo hs[j]
theorem TzC.kept {t:Nat} {h:HE w} {vz:Value} {A W:World} (hz:TzC t h vz A) (hk:∀(g:Nat) (c:Array Value) (f:Nat × Nat),A.heap[g]? = some (Obj.cells c 54 f)->W.heap[g]? = some (Obj.cells c 54 f)):TzC t h vz W:=by
 rcases hz with hz|hz
 ·exact .inl hz
 ·refine .inr (hz.kept fun g c ty f hv hg=>?_)
  obtain⟨c',f',h'⟩:=hz.typ hv;rw[hg] at h';cases h';exact hk g _ _ hg
theorem TuM.len6 {hs:List (HE w)} {t B i:Nat} {css:List (List Value)} {vm:Value} {W:World} (h:TuM hs t B i css vm W):∀x∈css,x.length=6:=fun x hx=>by
 obtain⟨j,hj,rfl⟩:=List.mem_iff_getElem.1 hx;have hl:=h.len;by_cases hji:j<i
 ·obtain⟨vz,e,_⟩:=h.done j hj (by omega) hji
  rw[e];rfl
 ·rw[h.todo j hj (by omega) (by omega)];rfl
theorem TuM.below {hs:List (HE w)} {t B i:Nat} {css:List (List Value)} {vm:Value} {A W:World} (h:TuM hs t B i css vm A) (hb:Below A.heap.size A W):TuM hs t B i css vm W :=
 ⟨h.row.below hb,h.len,fun j h1 h2 h3=>by
  obtain⟨vz,e1,e2⟩:=h.done j h1 h2 h3;exact⟨vz,e1,e2.kept fun g c f hg=>(hb.block g (Array.getElem?_eq_some_iff.1 hg).1).trans hg⟩,h.todo⟩
theorem TuM.skip {hs:List (HE w)} {t B i:Nat} {css:List (List Value)} {vm:Value} {W:World} (h:TuM hs t B i css vm W) (hi:i<hs.length) (h0:hs[i].zones.length=0):TuM hs t B (i+1) css vm W :=
 ⟨h.row,h.len,fun j h1 h2 h3=>by
  by_cases hji:j<i
  ·exact h.done j h1 h2 hji
  ·obtain rfl:j=i:=by omega
   exact⟨hs[j].vz,by rw[h.todo j h1 h2 (Zh _)];rfl,.inl ⟨h0,rfl⟩⟩,fun j h1 h2 h3=>h.todo j h1 h2 (by omega)⟩
theorem TuM.step {hs:List (HE w)} {t B i g n cap:Nat} {css:List (List Value)} {vz:Value} {W:World} (h:TuM hs t B i css (.slice (some ⟨g,0,none⟩) n cap) W) (hi:i<hs.length) (hz:Row (fun _=>True) 54 2 vz hs[i].zones.length ((rotL hs[i].zones t).map encZ).flatten W) :
  TuM hs t B (i+1) (css.set i (tcs hs[i] vz)) (.slice (some ⟨g,0,none⟩) n cap) (W.setCell ⟨g,i*6+5,none⟩ vz):=by
 have hl:=h.len;have hn:n=hs.length:=by
  rcases h.row.1.2 with⟨e,_⟩|⟨g',c',cur,e,_⟩
  ·cases e
  ·cases e;rfl
 subst hn;obtain⟨cg,fg,hgt⟩:=h.row.typ (g:=g) rfl;have hother:∀(b:Nat) (c:Array Value) (f:Nat × Nat),W.heap[b]? = some (Obj.cells c 54 f)->(W.setCell ⟨g,i*6+5,none⟩ vz).heap[b]? = some (Obj.cells c 54 f):=fun b c f hb=>by
  refine (Below.heap_setCell _ _ _ _ (fun e=>?_)).trans hb
  have e':b=g:=e;rw[e',hgt] at hb;cases hb
 refine⟨?_,by rw[List.length_set];exact hl,fun j h1 h2 h3=>?_,fun j h1 h2 h3=>?_⟩
 ·have h1:=h.row.set1 (i*6+5) vz
  rw[flat_setK css i 5 vz h.len6 (by omega) (by decide)] at h1
  rw[h.todo i (by omega) hi (Zh _)] at h1
  exact h1
 ·by_cases hji:j=i
  ·subst hji
   refine⟨vz,by rw[List.getElem_set_self],?_⟩
   exact TzC.kept (A:=W) (.inr hz) hother
  ·have h1':j<css.length:=by rw[List.length_set] at h1;exact h1
   obtain⟨u,e1,e2⟩:=h.done j h1' h2 (by omega)
   exact⟨u,by rw[List.getElem_set_ne (fun e=>hji e.symm)];exact e1,e2.kept hother⟩
 ·have h1':j<css.length:=by rw[List.length_set] at h1;exact h1
  rw[List.getElem_set_ne (by omega)]
  exact h.todo j h1' h2 (by omega)
theorem tu_list {t:Nat} {W:World} (hb:Below w.heap.size w W):∀(hs:List (HE w)) (css:List (List Value)),css.length=hs.length->(∀j (h1:j<css.length) (h2:j<hs.length),∃vz,css[j]=tcs hs[j] vz/\TzC t hs[j] vz W) ->
  ∃hs':List (HE W),hs'.map encHo=css/\(hs'.map fun h=>h.zones.map fun z=>(z.origin,plE z.recs))=hs.map fun h=>rotL (h.zones.map fun z=>(z.origin,plE z.recs)) t
 | [],[],_,_=>⟨[],rfl,rfl⟩
 | x::hs,c::css,hl,h=>by
  obtain⟨vz,e1,e2⟩:=h 0 (by simp) (by simp)
  obtain⟨hs',g1,g2⟩:=tu_list hb hs css (by simpa using hl) (fun j h1 h2=>h (j+1) (by simpa using h1) (by simpa using h2))
  have up:∀zs:List (ZE w),∃zs':List (ZE W),zs'.map encZ=zs.map encZ/\zs'.map (fun z=>(z.origin,plE z.recs))=zs.map (fun z=>(z.origin,plE z.recs)):=fun zs =>
   ⟨zs.map fun z=>⟨z.vo,z.vr,z.origin,z.recs.map (El.up hb),z.ho.below hb,by rw[up_fst];exact z.hr.kept hb,z.nb,by rw[Zf];exact z.len⟩,
    by rw[List.map_map];rfl,by rw[List.map_map];exact List.map_congr_left fun z _=>by show (z.origin,plE (z.recs.map (El.up hb)))=_;rw[up_pl]⟩
  obtain⟨zs',z1,z2⟩:=up (rotL x.zones t);have hzl:zs'.length=x.zones.length:=by
   have:=congrArg List.length z1
   rw[Zf,Zf,rotL_len] at this;exact this
  have hg:GRd 2 vz (zs'.map encZ) W:=by
   rw[z1];simp only[List.getElem_cons_zero] at e2;rcases e2 with⟨k0,rfl⟩|hr
   ·have hr0:rotL x.zones t=x.zones:=by unfold rotL;rw[if_pos k0]
    rw[hr0];exact x.hz.below hb
   ·refine Row.grd (by rw[Zf,rotL_len];exact hr) (fun c hc=>?_)
    obtain⟨z,_,rfl⟩:=List.mem_map.1 hc;obtain⟨p,q,hv,_⟩:=z.ho.form;obtain⟨o,c,hv2⟩:∃o cap,z.vr=.slice o z.recs.length cap:=by obtain⟨_,o,cap,h,_⟩:=z.hr;exact⟨o,cap,by rw[h,Zf]⟩
    unfold encZ;rw[hv,hv2];exact⟨rfl,by simp[Value.oneCell']⟩
  refine⟨⟨x.vn,x.a0,x.a1,x.a2,x.a3,vz,x.name,zs',x.hn.below hb,hg,by rw[hzl];exact x.len⟩::hs',?_,?_⟩
  ·rw[List.map_cons,g1]
   simp only[List.getElem_cons_zero] at e1;rw[e1];rfl
  ·rw[List.map_cons,List.map_cons,g2]
   show zs'.map _::_=_;rw[z2,rotL_map]
end
theorem Eg.alk_rot {α:Type} (t:Nat):∀L:List (List α),Eg.Alk (L.map fun x=>rotL x t) L
 | []=>trivial
 | x::L=>⟨fun p=>rotL_mem x t p,Eg.alk_rot t L⟩
end
section
section
variable {w:World}
structure FlM (B:Nat) (n0 n1 n2 n3:Value) (l:List (ElG w)) (w0 W:World):Prop where
 nb:Blk B #[n0,n1,n2,n3] 25 W
 ob:OutG (B+2) (B+1) l W
 below:Below B w0 W
 size:B+2<=W.heap.size
theorem FlM.on {B:Nat} {n0 n1 n2 n3:Value} {l:List (ElG w)} {w0 A W:World} (h:FlM B n0 n1 n2 n3 l w0 A) (hb:Below A.heap.size A W):FlM B n0 n1 n2 n3 l w0 W :=
 ⟨h.nb.below hb,h.ob.below hb,h.below.trans (hb.mono (by have:=h.size;omega)),Nat.le_trans h.size hb.size⟩
theorem FlM.put {B L:Nat} {n0 n1 n2 n3:Value} {l:List (ElG w)} {w0 A:World} {r:Loop} (h:FlM B n0 n1 n2 n3 l w0 A) (hL:B<=L) (hr:A.heap[L]? = some (.loop r)) (o:Obj):FlM B n0 n1 n2 n3 l w0 (A.putObj L o) :=
 ⟨h.nb.put hr o,h.ob.put hr o,below_put h.below hL hr (by have:=h.size;omega) o,by simpa using h.size⟩
theorem FlM.push {B:Nat} {n0 n1 n2 n3:Value} {l m:List (ElG w)} {w0 W Wq w10:World} (h:FlM B n0 n1 n2 n3 l w0 W) (hba:Below W.heap.size W Wq) {v v10:Value} (hbx:Box (B+1) 29 v Wq) (hrow:Row (fun g=>B+2<=g) 45 5 v l.length (l.map encG).flatten Wq)
  (hrow10:Row (fun g=>B+2<=g) 45 5 v10 (l.length+m.length) (l.map encG++m.map encG).flatten w10) (hgr:Wq.grownBy w10 v.ownBlock) :
  FlM B n0 n1 n2 n3 (l++m) w0 (w10.setCell ⟨B+1,0,none⟩ v10)/\keepT EgT W (w10.setCell ⟨B+1,0,none⟩ v10)/\KeepsOthers W (w10.setCell ⟨B+1,0,none⟩ v10)/\Below B W (w10.setCell ⟨B+1,0,none⟩ v10):=by
 have hq:=h.on hba;obtain⟨h1,h2,h3,h4⟩:=OutG.push (B:=B+2) (bo:=B+1) (l:=l) (m:=m) (by omega) hbx hrow hrow10 hgr
 have hsz:=h.size;have hsq:=hq.size;have hblk:∀b,b<B+2->b≠B+1->(w10.setCell ⟨B+1,0,none⟩ v10).heap[b]? = Wq.heap[b]?:=fun b hb hne =>
  (Below.heap_setCell _ _ _ _ hne).trans (hgr.block b (by omega) (fun e=>by have:=hrow.2 b e.symm;omega))
 have hbB:=(hba.mono (show B<=W.heap.size by omega))
 exact⟨⟨(hblk _ (by omega) (by omega)).trans hq.nb,h1,hq.below.trans (h4 B (by omega)),by have:=hgr.size;simp[World.setCell];omega⟩,
  (keepT.below hba).trans h2,(Z6 hba).trans h3,hbB.trans (h4 B (by omega))⟩
end
end
section
attribute [local go_sem] Oper.semAt_some
namespace Eg
theorem flatMap_leM {α β:Type} {F:α->List β} {m:Nat}:∀l:List α,(∀a∈l,(F a).length<=m)->(l.flatMap F).length<=l.length*m
 | [],_=>by simp
 | a::l,h=>by
  rw[List.flatMap_cons,Zb,Ze,Nat.succ_mul];have:=h a Zu;have:=flatMap_leM (F:=F) (m:=m) l (fun b hb=>h b (Zv _ hb));omega
theorem zs_mem {w:World}:∀(hs:List (HE w)) (i:Nat),∀p∈zsF hs i,∃h∈hs,p.2∈h.zones
 | [],_,p,hp=>by simp[zsF] at hp
 | h::l,i,p,hp=>by
  simp only[zsF,List.mem_append,List.mem_map] at hp;rcases hp with⟨z,hz,rfl⟩|hp
  ·exact⟨h,Zu,hz⟩
  ·obtain⟨h',h1,h2⟩:=zs_mem l (i+1) p hp;exact⟨h',Zv _ h1,h2⟩
theorem flaws_len {w:World} (hs:List (HE w)) (hn:hs.length<=6) (h20:∀h∈hs,∀z∈h.zones,z.recs.length<=20):(flawsP ((zs hs).map pz)).length<=24000:=by
 have hl:((zs hs).map (pz (w:=w))).length<=24:=by rw[Zf];have:=zs_len hs 0;show (zsF hs 0).length<=_;omega
 have h:=flatMap_leM (F:=zf ((zs hs).map pz)) (m:=1000) ((zs hs).map pz) (fun p hp=>by
  obtain⟨q,hq,rfl⟩:=List.mem_map.1 hp;obtain⟨h',h1,h2⟩:=zs_mem hs 0 q hq;exact zf_len hl (by show (plE q.2.recs).length<=20;rw[zH];exact h20 h' h1 _ h2))
 unfold flawsP;have:((zs hs).map (pz (w:=w))).length*1000<=24*1000:=Nat.mul_le_mul_right _ hl
 omega
end Eg
theorem keepsOthers_putFar {A B:World} {L:Nat} (h:KeepsOthers A B) (hL:A.heap.size<=L) (o:Obj):KeepsOthers A (B.putObj L o) :=
 ⟨by simpa using h.size,fun k o' hk ho=>(World.putObj_heap_other (by have:=(Array.getElem?_eq_some_iff.1 hk).1;omega)).trans (h.same k o' hk ho)⟩
section
variable {w:World}
structure FlI (B vb:Nat) (zc:Array Value) (A:World) (n0 n1 n2 n3:Value) (l:List (ElG w)) (w0 U:World):Prop where
 fm:FlM B n0 n1 n2 n3 l w0 U
 zb:Blk vb zc 54 U
 ko:KeepsOthers A U
 kp:egKp EgT w A U
theorem FlI.on {B vb:Nat} {zc:Array Value} {A:World} {n0 n1 n2 n3:Value} {l:List (ElG w)} {w0 U V:World} (h:FlI B vb zc A n0 n1 n2 n3 l w0 U) (hb:Below U.heap.size U V):FlI B vb zc A n0 n1 n2 n3 l w0 V :=
 ⟨h.fm.on hb,h.zb.below hb,h.ko.trans (Z6 hb),h.kp.trans (egKp.below hb)⟩
theorem FlI.put {B vb L:Nat} {zc:Array Value} {A:World} {n0 n1 n2 n3:Value} {l:List (ElG w)} {w0 U:World} {r:Loop} (h:FlI B vb zc A n0 n1 n2 n3 l w0 U) (hL:B<=L) (hA:A.heap.size<=L) (hw:w.heap.size<=L) (hr:U.heap[L]? = some (.loop r)) (o:Obj):FlI B vb zc A n0 n1 n2 n3 l w0 (U.putObj L o) :=
 ⟨h.fm.put hL hr o,h.zb.put hr o,keepsOthers_putFar h.ko hA o,h.kp.trans (egKp.put hw (fun c t f e=>by rw[hr] at e;cases e) o)⟩
theorem FlI.push {B vb:Nat} {zc:Array Value} {A:World} {n0 n1 n2 n3:Value} {l m:List (ElG w)} {w0 W Wq w10:World} (h:FlI B vb zc A n0 n1 n2 n3 l w0 W) (hwB:w.heap.size<=B) (hba:Below W.heap.size W Wq) {v v10:Value} (hbx:Box (B+1) 29 v Wq) (hrow:Row (fun g=>B+2<=g) 45 5 v l.length (l.map encG).flatten Wq)
  (hrow10:Row (fun g=>B+2<=g) 45 5 v10 (l.length+m.length) (l.map encG++m.map encG).flatten w10) (hgr:Wq.grownBy w10 v.ownBlock) :
  FlI B vb zc A n0 n1 n2 n3 (l++m) w0 (w10.setCell ⟨B+1,0,none⟩ v10)/\egKp EgT w W (w10.setCell ⟨B+1,0,none⟩ v10)/\KeepsOthers W (w10.setCell ⟨B+1,0,none⟩ v10):=by
 obtain⟨h1,h2,h3,h4⟩:=h.fm.push hba hbx hrow hrow10 hgr;have h5:egKp EgT w W (w10.setCell ⟨B+1,0,none⟩ v10):=⟨h2,fun hw=>hw.trans (h4.mono hwB)⟩
 exact⟨⟨h1,h2 _ _ _ _ h.zb (by unfold EgT;decide),h.ko.trans h3,h.kp.trans h5⟩,h5,h3⟩
theorem downG {w':World} (hb:Below w.heap.size w w') (lf:List (ElG w)):∀l5:List (ElG w'),(∀x∈l5,x∈lf.map (ElG.up hb))->∃l6:List (ElG w),l6.map encG=l5.map encG/\plG l6=plG l5/\l6.length=l5.length
 | [],_=>⟨[],rfl,rfl,rfl⟩
 | x::l5,h=>by
  obtain⟨l6,h1,h2,h3⟩:=downG hb lf l5 (fun y hy=>h y (Zv _ hy))
  obtain⟨y,_,rfl⟩:=List.mem_map.1 (h x Zu);refine⟨y::l6,?_,?_,by rw[Ze,Ze,h3]⟩
  ·rw[List.map_cons,List.map_cons,h1];rfl
  ·show y.1.2::plG l6=_::plG l5
   rw[h2];rfl
def FlR (P:List PEg) (w0:World) (e:Ending) (w':World):Prop :=
 ∃(v:Value) (l:List (ElG w)),e=.returned v/\GRd 5 v (l.map encG) w'/\Eg.Of (plG l) P/\l.length<=24000/\Below w0.heap.size w0 w'
end
section
variable {w:World}
set_option maxHeartbeats 16000000 in
theorem flaws_any {w0:World} (hb0:Below w.heap.size w w0) (vh n1 n2 n3:Value) (hs:List (HE w)) (hv:GRd 6 vh (hs.map encHo) w) (hn:hs.length<=6) (h20:∀h∈hs,∀z∈h.zones,z.recs.length<=20) :
  Calls Tryz.prog 8 #[.agg #[vh,n1,n2,n3]] w0 (FlR (w:=w) (Eg.flawsP ((Eg.zs hs).map Eg.pz)) w0):=by
 have HIT1:=Hd <| fun bn=>zones1_iter (w:=w) EgT bn vh n1 n2 n3 hs hv hn
 obtain⟨zp,hzp⟩:=Zq ((Eg.zs hs).map Eg.pz);rw[hzp];have HZP:=Hd hzp;have HV:=Hd hv;have HN:=Hd hn;have H20:=Hd h20;have HB0:=Hd hb0;clear hv hn h20 hb0 hzp;refine (zF (n:=0)).1 ?_;refine callsIn_of_wp_marks Tryz.func8 rfl trivial ?_ rfl;simp only[Tryz.ntmps8,Zo,Ze,Zg,Nat.reduceAdd,Nat.reduceSub,Zi,Zj,Zk,Zl,Zm,Zp];gi_wp2_with fail
 obtain⟨W2,hW2⟩:=Zq ((w0.alloc (.cells #[vh,n1,n2,n3] 25)).alloc (.cells #[.slice none 0 0] 29));have hM0:FlM w0.heap.size vh n1 n2 n3 ([]:List (ElG w)) w0 W2:=by
  rw[<-hW2];refine⟨(Blk.new w0 _ _).alloc _,⟨.slice none 0 0,?_,Row.nil _ _ _ _⟩,(Zr).alloc (by simp) _,by simp⟩
  have h:=Box.new (w0.alloc (.cells #[vh,n1,n2,n3] 25)) 29 (.slice none 0 0)
  rwa [show (w0.alloc (.cells #[vh,n1,n2,n3] 25)).heap.size=w0.heap.size+1 by simp] at h
 have hs2:W2.heap.size=w0.heap.size+1+1:=by rw[<-hW2];simp
 rw[hW2];clear hW2;refine (callsIn_wide.2 (zones_any vh n1 n2 n3 W2)).mono ?_;rintro e Wz ⟨rfl,hWz⟩;have hbz:Below W2.heap.size W2 Wz:=by rw[<-hWz];exact Zr
 have hkz:Blk W2.heap.size #[vh,n1,n2,n3] 25 Wz:=by rw[<-hWz];exact Blk.new W2 _ _
 have hzz:Wz.heap.size=W2.heap.size+1:=by rw[<-hWz];simp
 have hMz:=hM0.on hbz;rw[hs2] at hkz hzz;clear hWz hbz hM0;gi_wp2_with fail
 obtain⟨I,hI⟩:∃I:Nat->World->Prop,I=(fun k U=>∃l:List (ElG w),FlM w0.heap.size vh n1 n2 n3 l w0 U/\Hid (k<=zp.length/\plG l++(zp.drop k).flatMap (Eg.zf zp)=Eg.flawsP zp)):=⟨_,rfl⟩
 refine rf_outer3 ?hg (enters_of Tryz.func49 (by kernel_rfl) rfl) (HIT1.out (w0.heap.size+1+1))
   ?x1 ?x2 ?x3 ?hps I ?x4 ?x5 ?x6 ?x7 ?round2 ?done2
 case hg=>rfl
 case x1=>exact fun A B h=>egSt.others h
 case x2=>exact fun _ _ _ h k=>h.trans k
 case x3=>exact fun A r o hr=>egKp.put (by have:=HB0.out.size;omega) (fun c t f h=>by rw[hr] at h;cases h) o
 case hps =>
  intro k A v k' h;obtain⟨_,_,h⟩:=h;rw[h];simp
 case x4 =>
  intro k A B h hb;rw[hI] at h ⊢;obtain⟨l,h,k3⟩:=h;exact⟨l,h.on hb,k3⟩
 case x5 =>
  intro k A r o h hr;rw[hI] at h ⊢;obtain⟨l,h,k3⟩:=h;exact⟨l,h.put (by omega) hr o,k3⟩
 case x6 =>
  intro rr;have hb2:Below Wz.heap.size Wz ((Wz.alloc (.deferred (some []))).alloc (.loop rr)):=(Zr).alloc (by simp) _
  rw[hI];exact⟨[],hMz.on hb2,⟨Nat.zero_le _,rfl⟩⟩
 case x7 =>
  intro rr;have hb2:Below Wz.heap.size Wz ((Wz.alloc (.deferred (some []))).alloc (.loop rr)):=(Zr).alloc (by simp) _
  exact⟨hkz.below hb2,Z5 (Z5 HB0.out hMz.below) hb2⟩
 case round2 =>
  rintro lp k k' v V hII ⟨hlt,rfl,rfl⟩;rw[hI] at hII;obtain⟨l,hM,hpl⟩:=hII;obtain⟨⟨i,z⟩,hyz⟩:∃y,(Eg.zs hs)[k]=y:=⟨_,rfl⟩;rw[hyz];obtain⟨oo,co,hzo,_,_⟩:=z.ho.form;obtain⟨or,cr,hzr⟩:∃o cap,z.vr=.slice o z.recs.length cap:=by obtain⟨_,o,cap,h,_⟩:=z.hr;exact⟨o,cap,by rw[h,Zf]⟩
  have hze:encZ z=[.slice oo z.origin.length co,.slice or z.recs.length cr]:=by unfold encZ;rw[hzo,hzr]
  have HDR:Hid (k<zp.length/\(zp.drop k).flatMap (Eg.zf zp)=Eg.zf zp (Eg.pz (i,z))++(zp.drop (k+1)).flatMap (Eg.zf zp)):=by
   have hpk:k<zp.length:=by rw[<-HZP.out,Zf];exact hlt
   have hgk:zp[k]=Eg.pz (Eg.zs hs)[k]:=by
    have:∀q,(Eg.zs hs).map Eg.pz=q->∀h:k<q.length,q[k]=Eg.pz (Eg.zs hs)[k]:=fun q e h=>by subst e;rw[List.getElem_map]
    exact this _ HZP.out hpk
   refine⟨hpk,?_⟩;rw[Zy hpk,hgk,hyz];rfl
  have HTT:Hid (l.length+(Eg.zf zp (Eg.pz (i,z))).length<=24000):=by
   have h1:=congrArg List.length hpl.out.2;have h2:=Eg.flaws_len hs HN.out H20.out;have h5:(plG l).length=l.length:=by simp[plG]
   rw[HZP.out] at h2;rw[HDR.out.2,Zb,Zb,h5] at h1;show _<=_;omega
  obtain⟨zn,hzn⟩:=Zq z.origin.length;obtain⟨zl,hzl⟩:=Zq z.recs.length;rw[hzn,hzl] at hze;have HIT2:=Hd <| fun bz=>cuts1_iter (w:=w) EgT (by unfold EgT;decide) (by unfold EgT;decide) (by unfold EgT;decide) bz z
  have HZE:=Hd hze;have HM:=Hd hM;have HYZ:Hid ((Eg.zs hs)[k]? = some (i,z)):=by show _=_;rw[zN hlt,hyz]
  rw[hze];clear hlt hyz hzo hzr hze hzn hzl hM hMz hkz;gi_wp2
  have hnc:Below V.heap.size V (V.alloc (.cells #[.slice oo zn co,.slice or zl cr] 54)):=Zr;refine⟨Z6 hnc,egKp.below hnc,fun rr o hl hr=>?_⟩
  have hbc:Blk V.heap.size #[.slice oo zn co,.slice or zl cr] 54 (V.alloc (.cells #[.slice oo zn co,.slice or zl cr] 54)):=Blk.new V _ _;obtain⟨A,hA⟩:=Zq ((V.alloc (.cells #[.slice oo zn co,.slice or zl cr] 54)).putObj (Wz.heap.size+1) (.loop o));have HMA:Hid (FlM w0.heap.size vh n1 n2 n3 l w0 A):=by show FlM _ _ _ _ _ _ _ _;rw[<-hA];exact (HM.out.on hnc).put (by omega) hr (.loop o)
  have hbA:=hbc.put hr (.loop o);have hLA:A.heap[Wz.heap.size+1]? = some (.loop o):=by rw[<-hA];exact World.putObj_heap_same (Array.getElem?_eq_some_iff.1 hr).1
  rw[hA] at hbA ⊢;have HBC:=Hd hbA;obtain⟨zb,hzb⟩:=Zq V.heap.size;rw[hzb] at hbA HBC ⊢;subst hl;have HLA:=Hd hLA;have z0:=hbA.cell 0;have z1:=hbA.cell 1;clear hA hr HM hnc hbc hbA hLA hzb;gi_wp2_with fail
  clear z0 z1;refine (CallsIn.inRound _ (callsIn_wide.2 (cuts_any _ _ A))).mono ?_;rintro e Wc ⟨rfl,hWc⟩;have hbw:Below A.heap.size A Wc:=by rw[<-hWc];exact Zr
  have hkc:Blk A.heap.size (encZ z).toArray 54 Wc:=by rw[<-hWc,HZE.out];exact Blk.new A _ _
  have hlc:=(egSt.others hbw).same _ _ HLA.out rfl;have hMc:=HMA.out.on hbw;clear hWc;gi_wp2_with fail
  refine rf_inner3 hlc ?hg3 (enters_of Tryz.func50 (by kernel_rfl) rfl) (HIT2.out A.heap.size)
   ?v1 ?v2 ?v3 ?vps (fun g U=>∃l':List (ElG w),FlI w0.heap.size zb #[.slice oo zn co,.slice or zl cr] A vh n1 n2 n3 l' w0 U/\Hid (plG l'++g.flatMap (Eg.ofP zp z.origin (plE z.recs))=plG l++Eg.zf zp (Eg.pz (i,z)))) ?v4 ?v5 ?v6 ?v7 ?round3 ?done3
  case hg3=>rfl
  case v1=>exact fun A B h=>egSt.others h
  case v2=>exact fun _ _ _ h k=>h.trans k
  case v3=>exact fun A' r o hr=>egKp.put (by have:=HB0.out.size;have:=HMA.out.size;have:=hbw.size;omega) (fun c t f h=>by rw[hr] at h;cases h) o
  case vps =>
   intro k A v k' h;obtain⟨_,_,_,_,_,h,_⟩:=h;rw[h];simp
  case v4 =>
   rintro k A' B ⟨l',h,k3⟩ hb;exact⟨l',h.on hb,k3⟩
  case v5 =>
   rintro k A' r o ⟨l',h,k3⟩ hr;exact⟨l',h.put (by have:=HMA.out.size;have:=hbw.size;omega) hbw.size (by have:=HB0.out.size;have:=HMA.out.size;have:=hbw.size;omega) hr o,k3⟩
  case v6 =>
   intro rr;have hb2:Below Wc.heap.size Wc (Wc.alloc (.loop rr)):=Zr;exact⟨l,(FlI.mk HMA.out HBC.out (KeepsOthers.refl _) (egKp.refl _ _ _)).on (Z5 hbw hb2),rfl⟩
  case v7 =>
   intro rr;have hb2:Below Wc.heap.size Wc (Wc.alloc (.loop rr)):=Zr;exact⟨hkc.below hb2,Z5 (Z5 HB0.out hMc.below) hb2⟩
  case done3 =>
   rintro g U hg ⟨l',hI3,hpl'⟩;have hpl2:plG l'=plG l++Eg.zf zp (Eg.pz (i,z)):=by
    have h:=hpl'.out;rw[show g=[] from hg,List.flatMap_nil,List.append_nil] at h;exact h
   have HX:=Hd (And.intro hpl2 hI3);clear hpl2 hI3 hpl' hkc hlc hMc hbw;gi_wp2_with fail
   rw[hI];refine⟨HX.out.2.ko,HX.out.2.kp,l',HX.out.2.fm,HDR.out.1,?_⟩;rw[HX.out.1,List.append_assoc,<-HDR.out.2];exact hpl.out.2
  case round3 =>
   rintro lp3 g g' v V3 ⟨l',hI3,hpl'⟩ ⟨gg,ke,cs,rfl,hke,rfl,hsc,hdt,hk60⟩;obtain⟨x,xs,po,no,qo,od,cd,hkx,rfl,hor,hda⟩:=id hsc;obtain⟨P1,hP1⟩:=Zq (Eg.ofP zp z.origin (plE z.recs) gg);obtain⟨ty,hty⟩:=Zq x.1.2.type;obtain⟨tt,htt⟩:=Zq (Rs.ttl x.1.2 (plE ke));obtain⟨kl,hkl⟩:=Zq ke.length;have HOF:Hid (∀W',CellsKept V3 W'->Below w.heap.size w W'->Calls Tryz.prog 27 #[.agg #[vh,n1,n2,n3],.agg #[.slice oo zn co,.slice or zl cr],.agg #[.slice po no qo,.int .i64 ty,.int .u32 (tt:Int),.slice od kl cd]] W' (EgR (w:=w) P1 W')):=fun W' hC hW=>by
    have h:=of_any hW vh n1 n2 n3 hs HV.out HN.out z _ ke (hsc.keep hC) hk60;rw[HZE.out,HZP.out,hke,hP1,hty,hkl] at h;rw[hke] at htt;rw[htt] at h;exact h
   have HLE:Hid (l'.length+P1.length<=24000):=by
    have h1:=congrArg List.length hpl'.out;have h2:=HTT.out;have h5:(plG l').length=l'.length:=by simp[plG]
    have h6:(plG l).length=l.length:=by simp[plG]
    rw[List.flatMap_cons,hP1,Zb,Zb,Zb,h5,h6] at h1;show _<=_;omega
   have HPL':Hid (plG l'++(P1++g'.flatMap (Eg.ofP zp z.origin (plE z.recs)))=plG l++Eg.zf zp (Eg.pz (i,z))):=by
    have h:=hpl'.out;rw[List.flatMap_cons,hP1] at h;exact h
   rw[hty,htt,hkl];have HI3:=Hd hI3;have HAW:Hid (A.heap.size<=Wc.heap.size):=hbw.size;clear hkx hor hda hsc hdt hke hty htt hkl hP1 hI3 hpl' hkc hlc hMc hbw hk60;gi_wp2
   have hnc3:Below V3.heap.size V3 (V3.alloc (.cells #[.slice po no qo,.int .i64 ty,.int .u32 (tt:Int),.slice od kl cd] 89)):=Zr;refine⟨Z6 hnc3,egKp.below hnc3,fun rr o hl hr=>?_⟩
   have hbc3:Blk V3.heap.size #[.slice po no qo,.int .i64 ty,.int .u32 (tt:Int),.slice od kl cd] 89 (V3.alloc (.cells #[.slice po no qo,.int .i64 ty,.int .u32 (tt:Int),.slice od kl cd] 89)):=Blk.new V3 _ _;obtain⟨A3,hA3⟩:∃U,(V3.alloc (.cells #[.slice po no qo,.int .i64 ty,.int .u32 (tt:Int),.slice od kl cd] 89)).putObj Wc.heap.size (.loop o)=U:=⟨_,rfl⟩;have HMA3:Hid (FlI w0.heap.size zb #[.slice oo zn co,.slice or zl cr] A vh n1 n2 n3 l' w0 A3):=by
    show FlI _ _ _ _ _ _ _ _ _ _ _;rw[<-hA3];exact (HI3.out.on hnc3).put (by have:=HAW.out;have:=HMA.out.size;omega) HAW.out (by have:=HAW.out;have:=HB0.out.size;have:=HMA.out.size;omega) hr (.loop o)
   have hbA3:=hbc3.put hr (.loop o);rw[hA3] at hbA3;have HBC3:=Hd hbA3;have HCK:Hid (CellsKept V3 A3):=by
    show CellsKept _ _;rw[<-hA3];exact fun k c t f hk=>CellsKept.put hr (.loop o) k c t f (CellsKept.below hnc3 k c t f hk)
   have HBW3:Hid (Below w.heap.size w A3):=Z5 HB0.out HMA3.out.fm.below;rw[hA3];obtain⟨cb,hcb⟩:=Zq V3.heap.size;have HCB:Hid (cb<A3.heap.size):=by show _<_;rw[<-hcb];exact hbA3.lt
   have HZB:Hid (w0.heap.size+2<=cb/\w0.heap.size+2<=A3.heap.size):=by
    have:=HI3.out.fm.size;have:=HMA3.out.fm.size
    exact⟨by rw[<-hcb];omega,by omega⟩
   rw[hcb] at HBC3 ⊢;clear hA3 hr hl hnc3 hbc3 hbA3 hcb HI3;gi_wp2_with fail
   obtain⟨vq,hbq,hrq⟩:=HMA3.out.fm.ob;obtain⟨oq,cq,rfl,_,_⟩:=Row.slf hrq;obtain⟨lq,hlq⟩:=Zq l'.length;have HLQ:=Hd hlq;rw[hlq] at hbq hrq;have HBQ:=Hd hbq;have HRQ:=Hd hrq;have HSS:Hid (∀W',Below A3.heap.size A3 W'->W'.cell? ⟨w0.heap.size+1,0,none⟩=some (.slice oq lq cq)/\W'.cell? ⟨w0.heap.size,0,none⟩=some (vh)/\W'.cell? ⟨w0.heap.size,1,none⟩=some (n1)/\W'.cell? ⟨w0.heap.size,2,none⟩=some (n2)/\W'.cell? ⟨w0.heap.size,3,none⟩=some (n3)/\W'.cell? ⟨zb,0,none⟩=some (.slice oo zn co)/\W'.cell? ⟨zb,1,none⟩=some (.slice or zl cr)/\W'.cell? ⟨cb,0,none⟩=some (.slice po no qo)/\W'.cell? ⟨cb,1,none⟩=some (.int .i64 ty)/\W'.cell? ⟨cb,2,none⟩=some (.int .u32 (tt:Int))/\W'.cell? ⟨cb,3,none⟩=some (.slice od kl cd)):=fun W' hW =>
    ⟨(HBQ.out.below hW).cell,(HMA3.out.fm.nb.below hW).cell 0,(HMA3.out.fm.nb.below hW).cell 1,(HMA3.out.fm.nb.below hW).cell 2,(HMA3.out.fm.nb.below hW).cell 3,(HMA3.out.zb.below hW).cell 0,(HMA3.out.zb.below hW).cell 1,(HBC3.out.below hW).cell 0,(HBC3.out.below hW).cell 1,(HBC3.out.below hW).cell 2,(HBC3.out.below hW).cell 3⟩
   clear hbq hrq hlq;refine Z8 [0,1,2,3,4,5] (fun W'=>W'.cell? ⟨w0.heap.size+1,0,none⟩=some (.slice oq lq cq)/\W'.cell? ⟨w0.heap.size,0,none⟩=some (vh)/\W'.cell? ⟨w0.heap.size,1,none⟩=some (n1)/\W'.cell? ⟨w0.heap.size,2,none⟩=some (n2)/\W'.cell? ⟨w0.heap.size,3,none⟩=some (n3)/\W'.cell? ⟨zb,0,none⟩=some (.slice oo zn co)/\W'.cell? ⟨zb,1,none⟩=some (.slice or zl cr)/\W'.cell? ⟨cb,0,none⟩=some (.slice po no qo)/\W'.cell? ⟨cb,1,none⟩=some (.int .i64 ty)/\W'.cell? ⟨cb,2,none⟩=some (.int .u32 (tt:Int))/\W'.cell? ⟨cb,3,none⟩=some (.slice od kl cd)) 7 rfl (by kernel_rfl) ?_
   intro wa hwa;have HBA:Hid (Below A3.heap.size A3 wa):=by subst hwa;exact (Below.refl _ _).drew
   have hS:=HSS.out _ HBA.out;clear hwa;refine tA 0 hS ?_;refine tA 1 hS ?_;refine tA 2 hS ?_;refine tA 3 hS ?_;refine oneH 4 (by rfl) (by kernel_rfl) (fun K hK=>?_)
   gi_wp2_with fail
   refine (CallsIn.inRound _ (callsIn_wide.2 (HOF.out wa (fun k c t f hk=>CellsKept.below HBA.out k c t f (HCK.out k c t f hk)) (Z5 HBW3.out HBA.out)))).mono ?_
   rintro e wb ⟨v3,m,rfl,hg3,hpm,b3⟩;have HBB3:=Hd (Z5 HBA.out b3);have hS:=HSS.out _ HBB3.out;obtain⟨o3,p3,e3,_,_⟩:=hg3.form;rw[Zf] at e3;subst e3;have HG3:=Hd hg3;have HPM:=Hd hpm;clear b3 hg3 hpm;gi_wp2_with fail
   refine hK _ _ (fun _=>hS) ?_
   clear hK K;have HNE:Hid (∀b,b<w0.heap.size+2\/b=cb\/b=zb->(some b:Option Nat)≠(Value.slice oq lq cq).ownBlock):=fun b hb e=>by
    rcases hb with hb|rfl|rfl
    ·have:=HRQ.out.2 _ e.symm;omega
    ·obtain⟨c',f',h'⟩:=HRQ.out.typ e.symm
     rw[HBC3.out] at h';cases h'
    ·obtain⟨c',f',h'⟩:=HRQ.out.typ e.symm
     rw[HMA3.out.zb] at h';cases h'
   have HLT:Hid (cb<wb.heap.size/\zb<wb.heap.size/\w0.heap.size+2<=wb.heap.size):=⟨(HBC3.out.below HBB3.out).lt,(HMA3.out.zb.below HBB3.out).lt,Nat.le_trans HZB.out.2 HBB3.out.size⟩;refine oneH 5 (by rfl) (by kernel_rfl) (fun K hK=>?_)
   gi_wp2_with (gi_at_builtin;refine Z7 (fun g=>w0.heap.size+2<=g) 45 _ 5 88 info_eflaw rfl (by decide) rfl _ _ _ Tryz.underlying29 rfl _ lq (l'.map encG) (by rfl) (HRQ.out.below HBB3.out) _ (m.map encG) (by rfl) HG3.out (by have h1:=HLE.out;rw[HLQ.out,<-HPM.out] at h1;simp only[plG,Zf] at h1;rw[Zf];omega) (by omega) HLT.out.2.2 ?_;intro v10 w10 hrow10 hgr10;obtain⟨o10,c10,e10⟩:=hrow10.form;subst e10;have HR10:=Hd hrow10;have HG10:=Hd hgr10;clear hrow10 hgr10)
   have hE:∀b o',b<w0.heap.size+2\/b=cb\/b=zb->w10.cell? ⟨b,o',none⟩=wb.cell? ⟨b,o',none⟩:=fun b o' hb =>
    World.cell?_of_block (HG10.out.block b (by have:=HLT.out;omega) (HNE.out b hb))
   have hS':=hS;have hS:w10.cell? ⟨w0.heap.size+1,0,none⟩=some (.slice oq lq cq)/\w10.cell? ⟨w0.heap.size,0,none⟩=some (vh)/\w10.cell? ⟨w0.heap.size,1,none⟩=some (n1)/\w10.cell? ⟨w0.heap.size,2,none⟩=some (n2)/\w10.cell? ⟨w0.heap.size,3,none⟩=some (n3)/\w10.cell? ⟨zb,0,none⟩=some (.slice oo zn co)/\w10.cell? ⟨zb,1,none⟩=some (.slice or zl cr)/\w10.cell? ⟨cb,0,none⟩=some (.slice po no qo)/\w10.cell? ⟨cb,1,none⟩=some (.int .i64 ty)/\w10.cell? ⟨cb,2,none⟩=some (.int .u32 (tt:Int))/\w10.cell? ⟨cb,3,none⟩=some (.slice od kl cd):=by
    obtain⟨s0,s1,s2,s3,s4,s5,s6,s7,s8,s9,s10⟩:=hS';exact⟨(hE _ _ (.inl (by omega))).trans s0,(hE _ _ (.inl (by omega))).trans s1,(hE _ _ (.inl (by omega))).trans s2,(hE _ _ (.inl (by omega))).trans s3,(hE _ _ (.inl (by omega))).trans s4,(hE _ _ (.inr (.inr rfl))).trans s5,(hE _ _ (.inr (.inr rfl))).trans s6,(hE _ _ (.inr (.inl rfl))).trans s7,(hE _ _ (.inr (.inl rfl))).trans s8,(hE _ _ (.inr (.inl rfl))).trans s9,(hE _ _ (.inr (.inl rfl))).trans s10⟩
   clear hE hS';refine hK _ _ (fun _=>hS) ?_
   clear hK K;have y2:Box (w0.heap.size+1) 29 (.slice oq lq cq) w10:=(HG10.out.block _ (by have:=HLT.out;omega) (HNE.out _ (.inl (by omega)))).trans (HBQ.out.below HBB3.out)
   have y0:=y2.cell;have y1:=y2.frozen;refine oneH 6 (by rfl) (by kernel_rfl) (fun K hK=>?_)
   gi_wp2_with fail
   refine hK _ _ (fun h=>absurd h (by decide)) ?_
   clear hK K;refine Z9 (by kernel_rfl) ?_
   have HFE:=Hd (show m.length=(m.map encG).length from (Zf ..).symm)
   obtain⟨hp1,hp2,hp3⟩:=FlI.push (l:=l') (m:=m) HMA3.out HB0.out.size HBB3.out (HBQ.out.below HBB3.out) (by rw[HLQ.out];exact HRQ.out.below HBB3.out) (by rw[HLQ.out,HFE.out];exact HR10.out) HG10.out
   rw[<-HFE.out] at hp1 hp2 hp3;clear y0 y1 y2 HR10 HG10;gi_wp2_with fail
   refine⟨hp3,hp2,l'++m,hp1,?_⟩;show _=_;rw[<-HPL'.out,<-HPM.out];simp[plG]
 case done2 =>
  rintro k U hk hIk hKd;rw[hI] at hIk;obtain⟨l,hM,hpl⟩:=hIk;have hpl2:plG l=Eg.flawsP zp:=by
   have h:=hpl.out.2;rw[show k=zp.length by rw[<-HZP.out,Zf];exact hk,List.drop_length,List.flatMap_nil,List.append_nil] at h;exact h
  have hll:l.length<=24000:=by
   have h2:=Eg.flaws_len hs HN.out H20.out;rw[HZP.out,<-hpl2] at h2;simpa[plG] using h2
  obtain⟨vq,hbq,hrq⟩:=hM.ob;obtain⟨oq,cq,rfl,_,_⟩:=Row.slf hrq;have hbu:Below w.heap.size w U:=Z5 HB0.out hM.below;have HFW:=Hd (egFewX_any (.slice oq l.length cq) (l.map (ElG.up hbu)) (by rw[upG_enc];exact rowG_grd hrq) (by rw[Zf];omega))
  have c0:=hbq.cell;have HPL2:=Hd hpl2;have HLL:=Hd hll;have HBE:=Hd hM.below;have HSE:=Hd hM.size;have HKD:=Hd hKd;have HUP:Hid (plG (l.map (ElG.up hbu))=plG l/\(l.map (ElG.up hbu)).length=l.length/\∀l5:List (ElG U),(∀x∈l5,x∈l.map (ElG.up hbu))->∃l6:List (ElG w),l6.map encG=l5.map encG/\plG l6=plG l5/\l6.length=l5.length):=⟨upG_pl hbu l,Zf ..,downG hbu l⟩;obtain⟨lu,hlu⟩:=Zq (l.map (ElG.up hbu));rw[hlu] at HFW HUP;clear hM hpl hpl2 hll hKd hbq hrq hlu hbu hkz hMz;gi_wp2_with (gi_at_call 29;refine (callsIn_wide.2 HFW.out).mono ?_;rintro e w1 ⟨v1,l1,rfl,hg1,hp1,hl1,hm1,hb1⟩)
  obtain⟨o1,q1,e1,_,_⟩:=hg1.form;rw[Zf] at e1;subst e1;have HC1:=Hd (clipEg_any _ l1 w1 hg1 (by have:=HUP.out.2.1;have:=HLL.out;omega))
  have HP1:=Hd (And.intro (Eg.Of.plain hp1) (And.intro hl1 (And.intro hb1 (HUP.out.2.2 l1 hm1))));clear hg1 hp1 hl1 hm1 hb1;gi_wp2_with (gi_at_call 28;refine (callsIn_wide.2 HC1.out).mono ?_;rintro e w2 ⟨v2,rfl,hg2,rfl⟩)
  have hk2:=(Z6 HP1.out.2.2.1).same _ _ HKD.out rfl;have HG2:=Hd hg2;rw[hzz] at hk2;have HK2:=Hd hk2;clear hg2 hk2 c0;gi_wp2_with fail
  refine leaveD rfl HK2.out (results_tmp rfl _ _ _) ?_;have hck:=CellsKept.putD HK2.out (.deferred none);obtain⟨l6,e6,p6,n6⟩:=HP1.out.2.2.2;refine⟨_,l6,rfl,?_,?_,?_,below_putD (HBE.out.trans (HP1.out.2.2.1.mono (by have:=HSE.out;omega))) (by omega) (by have:=HP1.out.2.2.1.size;have:=HSE.out;omega) _⟩
  ·rw[e6];exact GRd.cells_kept HG2.out hck
  ·have h:=HP1.out.1
   rw[HUP.out.1,HPL2.out] at h;rw[p6];exact h
  ·have:=HP1.out.2.1;have:=HUP.out.2.1;have:=HLL.out;omega
end
end
section
section
variable {w:World}
theorem encHo_one (h:HE w):(encHo h).length=6/\∀u∈encHo h,u.oneCell'=true:=by
 obtain⟨p,q,hv,_⟩:=h.hn.form;obtain⟨o,c,hz,_⟩:=h.hz.form;unfold encHo;rw[hv,hz];exact⟨rfl,by simp[Value.oneCell']⟩
theorem rot_src {W:World} {hs:List (HE w)} {hs2:List (HE W)} {t:Nat} (hz:(hs2.map fun h=>h.zones.map fun z=>(z.origin,plE z.recs))=hs.map fun h=>rotL (h.zones.map fun z=>(z.origin,plE z.recs)) t) (h20:∀h∈hs,∀z∈h.zones,z.recs.length<=20) :
  ∀h∈hs2,∀z∈h.zones,z.recs.length<=20:=fun x hx z hz'=>by
 have h1:(x.zones.map fun z=>(z.origin,plE z.recs))∈hs2.map fun h=>h.zones.map fun z=>(z.origin,plE z.recs):=List.mem_map.2 ⟨x,hx,rfl⟩
 rw[hz] at h1;obtain⟨y,hy,e⟩:=List.mem_map.1 h1;have h2:(z.origin,plE z.recs)∈x.zones.map fun z=>(z.origin,plE z.recs):=List.mem_map.2 ⟨z,hz',rfl⟩
 rw[<-e,rotL_mem] at h2;obtain⟨z2,hz2,e2⟩:=List.mem_map.1 h2;have e3:=congrArg (fun p=>p.2.length) e2
 simp only[zH] at e3;have:=h20 y hy z2 hz2
 omega
theorem rot_flaws {W:World} {hs:List (HE w)} {hs2:List (HE W)} {t:Nat} (hz:(hs2.map fun h=>h.zones.map fun z=>(z.origin,plE z.recs))=hs.map fun h=>rotL (h.zones.map fun z=>(z.origin,plE z.recs)) t) (x:PEg) :
  x∈Eg.flawsP ((Eg.zs hs2).map Eg.pz) ↔ x∈Eg.flawsP ((Eg.zs hs).map Eg.pz):=by
 refine Eg.flawsP_mem (fun p=>?_) x
 have h1:(Eg.zs hs2).map Eg.pz=_:=Eg.zs_zl hs2 0;have h2:(Eg.zs hs).map Eg.pz=_:=Eg.zs_zl hs 0;rw[h1,h2,hz];refine Eg.zl_mem ?_ 0 p;have:=Eg.alk_rot t (hs.map fun h=>h.zones.map fun z=>(z.origin,plE z.recs))
 rw[List.map_map] at this;exact this
theorem TuM.flaws {hs:List (HE w)} {t B:Nat} {css:List (List Value)} {vm:Value} {W:World} (hb:Below w.heap.size w W) (h:TuM hs t B hs.length css vm W) (hn:hs.length<=6) (h20:∀h∈hs,∀z∈h.zones,z.recs.length<=20)
  {W':World} (hW:Below W.heap.size W W') (n1 n2 n3:Value) :
  Calls Tryz.prog 8 #[.agg #[vm,n1,n2,n3]] W' (FlR (w:=W) (Eg.flawsP ((Eg.zs hs).map Eg.pz)) W'):=by
 obtain⟨hs2,e,hz⟩:=tu_list hb hs css h.len (fun j h1 h2=>h.done j h1 h2 h2)
 have hl2:hs2.length=hs.length:=by have:=congrArg List.length e;rw[Zf,h.len] at this;exact this
 have hg:GRd 6 vm (hs2.map encHo) W:=by
  refine Row.grd (by rw[e,h.len];exact h.row) (fun c hc=>?_)
  obtain⟨y,_,rfl⟩:=List.mem_map.1 hc;exact encHo_one y
 refine (flaws_any hW vm n1 n2 n3 hs2 hg (by omega) (rot_src hz h20)).mono ?_
 rintro e9 w9 ⟨v,l,rfl,a,b,c,d⟩;exact⟨v,l,rfl,a,b.moved (fun x=>rot_flaws hz x),c,d⟩
end
theorem GRd.elT5 {w:World} {o:Option Addr} {n cap:Nat} {l:List (ElG w)} {W:World} (h:GRd 5 (.slice o n cap) (l.map encG) W):∀W',Below W.heap.size W W'->∀(i:Nat) (hi:i<l.length) (c0 c1 c2 c3 c4:Value),encG l[i]=[c0,c1,c2,c3,c4]->∃a,o=some a/\W'.cell? (a.add (i*5))=some c0/\W'.cell? ⟨(a.add (i*5)).block,(a.add (i*5)).off+1,none⟩=some c1/\W'.cell? ⟨(a.add (i*5)).block,(a.add (i*5)).off+2,none⟩=some c2/\W'.cell? ⟨(a.add (i*5)).block,(a.add (i*5)).off+3,none⟩=some c3/\W'.cell? ⟨(a.add (i*5)).block,(a.add (i*5)).off+4,none⟩=some c4:=by
 intro W' hb i hi c0 c1 c2 c3 c4 hx;obtain⟨a,ha,h0,h1⟩:=(h.below hb).at (by decide) i (by simpa using hi)
 rw[List.getElem_map,hx] at h0 h1;exact⟨a,ha,h0,h1 1 (by decide) (by decide),h1 2 (by decide) (by decide),h1 3 (by decide) (by decide),h1 4 (by decide) (by decide)⟩
end
section
attribute [local go_sem] Oper.semAt_some
section
variable {w:World}
def NfR (hs:List (HE w)) (ro:Option Addr) (rl rc:Nat) (r1 r2:Int) (w0:World) (e:Ending) (w':World):Prop :=
 ∃(vx:Value) (css:List (List Value)),e=.returned (.agg #[vx,.slice ro rl rc,.int .i64 r1,.int .i64 r2])/\BdG HfC 95 6 (w0.heap.size+3) hs css vx w'/\Below w0.heap.size w0 w'
end
end
end Go.Proofs.YtgmbefolgppmdaaGreat
