/- edge.Cuts: the walk; edge.Word. -/
import Derived.Test.YtgmbefolgppmdaaGreatLEgX
import Derived.Test.YtgmbefolgppmdaaGreatLEgY
import Derived.Test.YtgmbefolgppmdaaGreatLSfC
import Derived.Test.YtgmbefolgppmdaaGreatLAli
import Derived.Test.YtgmbefolgppmdaaGreatLEhH
import Derived.Test.YtgmbefolgppmdaaGreatLEtC
import Derived.Test.YtgmbefolgppmdaaGreatLLabG
import Derived.Test.YtgmbefolgppmdaaGreatLSeW
import Derived.Test.YtgmbefolgppmdaaGreatLReg
namespace Go.Proofs.YtgmbefolgppmdaaGreat
open Go.RowKit Go.Shelf Go.Sort
set_option maxRecDepth 100000
section
attribute [local go_sem] Oper.semAt_some
def EcT (t:TypeId):Prop:=t=50\/t=38
section
variable {w:World}
structure CuM (B:Nat) (z0 z1:Value) (ys:List Value) (ns:List (List (List UInt8))) (w0 W:World):Prop where
 zb:Blk B #[z0,z1] 54 W
 ob:∃v,Box (B+1) 50 v W/\Row (fun g=>B+2<=g) 38 1 v ys.length ys W
 len:ys.length=ns.length
 rd:∀i (h:i<ys.length) (h':i<ns.length),Rd ys[i] ns[i] w
 below:Below B w0 W
 size:B+2<=W.heap.size
theorem CuM.on {B:Nat} {z0 z1:Value} {ys:List Value} {ns:List (List (List UInt8))} {w0 A W:World} (h:CuM (w:=w) B z0 z1 ys ns w0 A) (hb:Below A.heap.size A W):CuM (w:=w) B z0 z1 ys ns w0 W:=by
 obtain⟨v,h1,h2⟩:=h.ob;exact⟨h.zb.below hb,⟨v,h1.below hb,h2.below hb⟩,h.len,h.rd,h.below.trans (hb.mono (by have:=h.size;omega)),Nat.le_trans h.size hb.size⟩
theorem CuM.put {B L:Nat} {z0 z1:Value} {ys:List Value} {ns:List (List (List UInt8))} {w0 A:World} {r:Loop} (h:CuM (w:=w) B z0 z1 ys ns w0 A) (hL:B<=L) (hr:A.heap[L]? = some (.loop r)) (o:Obj):CuM (w:=w) B z0 z1 ys ns w0 (A.putObj L o):=by
 obtain⟨v,h1,h2⟩:=h.ob;exact⟨h.zb.put hr o,⟨v,h1.put hr o,h2.put hr o⟩,h.len,h.rd,below_put h.below hL hr (by have:=h.size;omega) o,by simpa using h.size⟩
theorem CuM.push {B:Nat} {z0 z1:Value} {ys:List Value} {ns:List (List (List UInt8))} {w0 W Wq w10:World} (h:CuM (w:=w) B z0 z1 ys ns w0 W) (hba:Below W.heap.size W Wq) {u v v10:Value} {n:List (List UInt8)} (hu:Rd u n w) (hbx:Box (B+1) 50 v Wq) (hrow:Row (fun g=>B+2<=g) 38 1 v ys.length ys Wq)
  (hrow10:Row (fun g=>B+2<=g) 38 1 v10 (ys.length+1) (ys++[u]) w10) (hgr:Wq.grownBy w10 v.ownBlock) :
  CuM (w:=w) B z0 z1 (ys++[u]) (ns++[n]) w0 (w10.setCell ⟨B+1,0,none⟩ v10)/\keepT EcT W (w10.setCell ⟨B+1,0,none⟩ v10)/\KeepsOthers W (w10.setCell ⟨B+1,0,none⟩ v10)/\Below B W (w10.setCell ⟨B+1,0,none⟩ v10):=by
 have hq:=h.on hba;have hsz:=h.size;have hsq:=hq.size;have hown:∀g,v.ownBlock=some g->B+2<=g:=fun g hg=>hrow.2 g hg
 have hbx10:Box (B+1) 50 v w10:=(hgr.block _ hbx.lt (fun e=>by have:=hown _ e.symm;omega)).trans hbx
 have hrt:∀g,v.ownBlock=some g->∃c t f,Wq.heap[g]? = some (Obj.cells c t f)/\EcT t:=fun g hg=>by
  obtain⟨c,f,h⟩:=hrow.typ hg;exact⟨c,_,f,h,.inr rfl⟩
 have h4:Below B Wq (w10.setCell ⟨B+1,0,none⟩ v10):=by
  have h1:Below B Wq Wq:=Below.refl _ _;exact (h1.grown hgr (by omega) (fun g hg=>by have:=hown g hg;omega)).setCell (p:=⟨B+1,0,none⟩) (by simp) _
 have hbB:=(hba.mono (show B<=W.heap.size by omega))
 refine⟨⟨?_,⟨v10,hbx10.set _,?_⟩,?_,fun i hi hi'=>?_,hq.below.trans h4,by have:=hgr.size;simp[World.setCell];omega⟩,(keepT.below hba).trans ((keepT.grown hgr hrt).trans (keepT.set _ ⟨_,_,_,hbx10,.inl rfl⟩)),(Z6 hba).trans ((KeepsOthers.of_grownBy hgr fun j o hj ho=>?_).trans (KeepsOthers.setCell _ _ _)),hbB.trans h4⟩
 ·exact ((Below.heap_setCell _ _ _ _ (show B≠B+1 by omega)).trans (hgr.block B (by omega) (fun e=>by have:=hown B e.symm;omega))).trans hq.zb
 ·rw[Zb]
  exact Row.setOther hrow10 (by omega) _
 ·simp[h.len]
 ·by_cases hlt:i<ys.length
  ·rw[Zt hlt,Zt (by have:=h.len;omega)]
   exact h.rd i hlt _
  ·have e:i=ys.length:=by simp at hi;omega
   subst e;rw[Zs (Zh _),Zs (by have:=h.len;omega)]
   have hl:=h.len;simpa[hl] using hu
 ·obtain⟨c,t,f,h1,_⟩:=hrt j hj
  rw[h1] at ho;cases ho;rfl
theorem Eg.cuts_len2 (o:List (List UInt8)) (L:List Rc.PRec):(Eg.cutsP o L).length<=L.length:=by
 unfold Eg.cutsP;refine Nat.le_trans (List.length_filter_le _ _) ?_;have h:∀(f:Nat) (l:List Rc.PRec),l.length<=f->(Rs.grpF f l).length<=l.length:=fun f l hf=>by
  have h1:=Rs.grpF_flat f l hf;have h2:∀gs:List (List Rc.PRec),(∀g∈gs,g≠[])->gs.length<=gs.flatten.length:=fun gs=>by
   induction gs with
   | nil=>intro _;simp
   | cons g gs ih =>
    intro hg;have:=ih (fun x hx=>hg x (Zv _ hx))
    have h3:=List.length_pos_iff.2 (hg g Zu);rw[List.flatten_cons,Zb,Ze];omega
  have h4:∀(f:Nat) (l:List Rc.PRec),∀g∈Rs.grpF f l,g≠[]:=fun f=>by
   induction f with
   | zero=>intro l g hg;simp[Rs.grpF] at hg
   | succ f ih =>
    intro l g hg;cases l with
    | nil=>simp[Rs.grpF] at hg
    | cons x l =>
     rw[Rs.grpF] at hg;rcases List.mem_cons.1 hg with rfl|hg
     ·intro e
      have h5:=congrArg List.length e;rw[List.length_take] at h5;have h6:=Rs.run_pos x l;simp only[Ze,Zg] at h5;omega
     ·exact ih _ g hg
  have h5:=h2 _ (h4 f l);rw[h1] at h5;exact h5
 have h1:=h _ (Rc.canon L) (Zh _);have h2:=Rc.canon_len L;omega
def CutsR (P:List (List (List UInt8))) (w0:World) (e:Ending) (w':World):Prop :=
 ∃o cap,e=.returned (.slice o P.length cap)/\Below w0.heap.size w0 w'
set_option maxHeartbeats 16000000 in
theorem egCuts_any {w0:World} (hb0:Below w.heap.size w w0) (z:ZE w) :
  Calls Tryz.prog 15 #[.agg (encZ z).toArray] w0 (CutsR ((Eg.cutsP z.origin (plE z.recs)).map Eg.ownerOf) w0):=by
 obtain⟨oo,co,hzo,_,_⟩:=z.ho.form;obtain⟨or,cr,hzr⟩:∃o cap,z.vr=.slice o z.recs.length cap:=by obtain⟨_,o,cap,h,_⟩:=z.hr;exact⟨o,cap,by rw[h,Zf]⟩
 have hze:encZ z=[.slice oo z.origin.length co,.slice or z.recs.length cr]:=by unfold encZ;rw[hzo,hzr]
 obtain⟨P,hP⟩:=Zq (Eg.cutsP z.origin (plE z.recs));have hpl:P.length<=60:=by
  rw[<-hP];have h1:=Eg.cuts_len2 z.origin (plE z.recs);rw[zH] at h1;have:=z.len
  omega
 have HIT:=Hd <| fun bz=>cuts1_iter (w:=w) EcT (by unfold EcT;decide) (by unfold EcT;decide) (by unfold EcT;decide) bz z
 rw[hP];rw[hP] at HIT;rw[hze] at HIT ⊢;obtain⟨zn,hzn⟩:=Zq z.origin.length;obtain⟨zl,hzl⟩:=Zq z.recs.length;rw[hzn,hzl] at HIT ⊢;have HB0:=Hd hb0;have HPL:=Hd hpl;clear hzo hzr hze hP hzn hzl hpl hb0;refine (zF (n:=0)).1 ?_;refine callsIn_of_wp_marks Tryz.func15 rfl trivial ?_ rfl;simp only[Tryz.ntmps15,Zo,Ze,Zg,Nat.reduceAdd,Nat.reduceSub,Zi,Zj,Zk,Zl,Zm,Zp];gi_wp2_with fail
 obtain⟨W2,hW2⟩:=Zq ((w0.alloc (.cells #[.slice oo zn co,.slice or zl cr] 54)).alloc (.cells #[.slice none 0 0] 50));have hM0:CuM (w:=w) w0.heap.size (.slice oo zn co) (.slice or zl cr) [] [] w0 W2:=by
  rw[<-hW2];refine⟨(Blk.new w0 _ _).alloc _,⟨.slice none 0 0,?_,Row.nil _ _ _ _⟩,rfl,fun i h=>by simp at h,(Zr).alloc (by simp) _,by simp⟩
  have h:=Box.new (w0.alloc (.cells #[.slice oo zn co,.slice or zl cr] 54)) 50 (.slice none 0 0)
  rwa [show (w0.alloc (.cells #[.slice oo zn co,.slice or zl cr] 54)).heap.size=w0.heap.size+1 by simp] at h
 have hs2:W2.heap.size=w0.heap.size+1+1:=by rw[<-hW2];simp
 rw[hW2];clear hW2;refine (callsIn_wide.2 (cuts_any _ _ W2)).mono ?_;rintro e Wz ⟨rfl,hWz⟩;have hbz:Below W2.heap.size W2 Wz:=by rw[<-hWz];exact Zr
 have hkz:Blk W2.heap.size #[.slice oo zn co,.slice or zl cr] 54 Wz:=by rw[<-hWz];exact Blk.new W2 _ _
 have hzz:Wz.heap.size=W2.heap.size+1:=by rw[<-hWz];simp
 have hMz:=hM0.on hbz;rw[hs2] at hkz hzz;clear hWz hbz hM0;gi_wp2_with fail
 refine rf_outer3 ?hg (enters_of Tryz.func50 (by kernel_rfl) rfl) (HIT.out (w0.heap.size+1+1))
   ?x1 ?x2 ?x3 ?hps (fun k U=>∃(ys:List Value) (ns:List (List (List UInt8))),CuM (w:=w) w0.heap.size (.slice oo zn co) (.slice or zl cr) ys ns w0 U/\Hid (ns++k.map Eg.ownerOf=P.map Eg.ownerOf)) ?x4 ?x5 ?x6 ?x7 ?round2 ?done2
 case hg=>rfl
 case x1=>exact fun A B h=>egSt.others h
 case x2=>exact fun _ _ _ h k=>h.trans k
 case x3=>exact fun A r o hr=>egKp.put (by have:=HB0.out.size;omega) (fun c t f h=>by rw[hr] at h;cases h) o
 case hps =>
  intro k A v k' h;obtain⟨_,_,_,_,_,h,_⟩:=h;rw[h];simp
 case x4 =>
  rintro k A B ⟨ys,ns,h,k3⟩ hb;exact⟨ys,ns,h.on hb,k3⟩
 case x5 =>
  rintro k A r o ⟨ys,ns,h,k3⟩ hr;exact⟨ys,ns,h.put (by omega) hr o,k3⟩
 case x6 =>
  intro rr;have hb2:Below Wz.heap.size Wz ((Wz.alloc (.deferred (some []))).alloc (.loop rr)):=(Zr).alloc (by simp) _
  exact⟨[],[],hMz.on hb2,rfl⟩
 case x7 =>
  intro rr;have hb2:Below Wz.heap.size Wz ((Wz.alloc (.deferred (some []))).alloc (.loop rr)):=(Zr).alloc (by simp) _
  exact⟨hkz.below hb2,Z5 (Z5 HB0.out hMz.below) hb2⟩
 case round2 =>
  rintro lp k k' v V ⟨ys,ns,hM,hns⟩ ⟨gg,ke,cs,rfl,hke,rfl,hsc,hdt,hk60⟩;obtain⟨x,xs,po,no,qo,od,cd,hkx,rfl,hor,hda⟩:=id hsc;obtain⟨ty,hty⟩:=Zq x.1.2.type;obtain⟨tt,htt⟩:=Zq (Rs.ttl x.1.2 (plE ke));obtain⟨kl,hkl⟩:=Zq ke.length;rw[hty,htt,hkl];have HOR:=Hd hor;have HOWN:Hid (Eg.ownerOf gg=x.1.2.owner):=by show _=_;rw[<-hke,hkx];rfl
  have HNS:Hid (ns++(Eg.ownerOf gg::k'.map Eg.ownerOf)=P.map Eg.ownerOf):=hns.out;have HYL:Hid (ys.length<=60):=by
   have h1:=congrArg List.length hns.out;rw[Zb,Zf,Zf,<-hM.len] at h1;have:=HPL.out
   show _<=_;omega
  have HM:=Hd hM;have HSZ:Hid (w0.heap.size+2<=Wz.heap.size):=hMz.size;clear hty htt hkl hor hda hkx hke hsc hdt hk60 hns hM hMz hkz;gi_wp2
  have hnc:Below V.heap.size V (V.alloc (.cells #[.slice po no qo,.int .i64 ty,.int .u32 (tt:Int),.slice od kl cd] 89)):=Zr;refine⟨Z6 hnc,egKp.below hnc,fun rr o hl hr=>?_⟩
  have hbc:Blk V.heap.size #[.slice po no qo,.int .i64 ty,.int .u32 (tt:Int),.slice od kl cd] 89 (V.alloc (.cells #[.slice po no qo,.int .i64 ty,.int .u32 (tt:Int),.slice od kl cd] 89)):=Blk.new V _ _;obtain⟨A,hA⟩:∃A,(V.alloc (.cells #[.slice po no qo,.int .i64 ty,.int .u32 (tt:Int),.slice od kl cd] 89)).putObj (Wz.heap.size+1) (.loop o)=A:=⟨_,rfl⟩;have HMA:Hid (CuM (w:=w) w0.heap.size (.slice oo zn co) (.slice or zl cr) ys ns w0 A):=by show CuM _ _ _ _ _ _ _;rw[<-hA];exact (HM.out.on hnc).put (by have:=HSZ.out;omega) hr (.loop o)
  have hbA:=hbc.put hr (.loop o);rw[hA] at hbA ⊢;have HBC:=Hd hbA;have z0:=hbA.cell 0;obtain⟨vq,hbq,hrq⟩:=HMA.out.ob;obtain⟨oq,cq,rfl,_,_⟩:=Row.slf hrq;have c3:A.cell? ⟨w0.heap.size+1,0,none⟩=some _:=hbq.cell;have hfz3:=hbq.frozen;obtain⟨lq,hlq⟩:=Zq ys.length;have HLQ:=Hd hlq;rw[hlq] at hbq hrq c3;have HBQ:=Hd hbq;have HRQ:=Hd hrq;have hnb:Below A.heap.size A (A.alloc (.cells #[.slice po no qo] 38)):=Zr;have HNB:=Hd hnb;clear hA hr hl HM hnc hbc hbA hbq hrq hlq hnb;gi_wp2_with (gi_at_builtin;refine Z7 (fun g=>w0.heap.size+2<=g) 38 _ 1 24 info_name rfl (by decide) rfl _ _ _ Tryz.underlying50 rfl _ lq (ys.map fun y=>[y]) (by rfl) (by rw[flatten_one];exact HRQ.out.below HNB.out) _ [[.slice po no qo]] (by rfl) (GRd.new [.slice po no qo] rfl (by simp[Value.oneCell']) A 38) (by have:=HYL.out;rw[HLQ.out] at this;simp;omega) (by omega) (by have:=HMA.out.size;have:=HNB.out.size;simp at *;omega) ?_;intro v10 w10 hrow10 hgr10;obtain⟨o10,c10,e10⟩:=hrow10.form;subst e10;have y2:Box (w0.heap.size+1) 50 (.slice oq lq cq) w10:=(hgr10.block _ (by have:=HMA.out.size;have:=HNB.out.size;omega) (fun e=>by have:=HRQ.out.2 _ e.symm;omega)).trans (HBQ.out.below HNB.out);have y0:=y2.cell;have y1:=y2.frozen;have HR10:=Hd hrow10;have HG10:=Hd hgr10;clear hrow10 hgr10 y2)
  have hr10:=HR10.out;rw[List.flatten_append,flatten_one] at hr10;obtain⟨hp1,hp2,hp3,hp4⟩:=CuM.push HMA.out HNB.out HOR.out (HBQ.out.below HNB.out) (by rw[HLQ.out];exact HRQ.out.below HNB.out) (by rw[HLQ.out];exact hr10) HG10.out
  clear y0 y1 HR10 HG10;refine⟨hp3,⟨hp2,fun hw=>hw.trans (hp4.mono (by have:=HB0.out.size;omega))⟩,ys++[.slice po no qo],ns++[x.1.2.owner],hp1,?_⟩
  show _=_;rw[<-HNS.out,HOWN.out,List.append_assoc];rfl
 case done2 =>
  rintro k U hk ⟨ys,ns,hM,hns⟩ hKd;have hk0:k=[]:=hk;subst hk0;have hn:ns=P.map Eg.ownerOf:=by have h:=hns.out;simpa using h
  obtain⟨vq,hbq,hrq⟩:=hM.ob;obtain⟨oq,cq,rfl,_,_⟩:=Row.slf hrq;have hbu:Below w.heap.size w U:=Z5 HB0.out hM.below;have c0:=hbq.cell;have HCL:=Hd (clipNms_any (.slice oq ys.length cq) ys ns _ U hrq hM.len (fun i h h'=>(hM.rd i h h').below hbu) (by have h1:=hM.len;have h2:=congrArg List.length hn;rw[Zf] at h2;have:=HPL.out;omega))
  have HNN:=Hd hn;have HBE:=Hd hM.below;have HSE:=Hd hM.size;rw[hzz] at hKd;have HKD:=Hd hKd;clear hM hns hn hbq hrq hbu hkz hMz hk hKd;gi_wp2_with (gi_at_call 37;refine (callsIn_wide.2 HCL.out).mono ?_;rintro e w2 ⟨v2,rfl,hg2,rfl⟩)
  obtain⟨o2,c2,e2,_,_⟩:=hg2.form;subst e2;clear hg2 c0;gi_wp2_with fail
  refine leaveD rfl HKD.out (results_tmp rfl _ _ _) ?_;refine⟨o2,c2,?_,below_putD HBE.out (by omega) (by have:=HSE.out;omega) _⟩
  show Ending.returned (Value.slice o2 ns.length c2)=_;rw[HNN.out]
end
namespace Eg
def words:List (List UInt8):=[[],[110,115,100,105,102,102,101,114,115],[103,108,117,101,100,105,102,102,101,114,115],[110,111,103,108,117,101],[110,111,99,104,105,108,100]]
end Eg
set_option maxHeartbeats 1000000 in
theorem egWord_any (k:Nat) (hk:k<5) (w:World):Calls Tryz.prog 12 #[.int .i64 (k:Int)] w fun e w'=>e=.returned (S (Eg.words[k]'hk))/\Below w.heap.size w w':=by
 have h:k=0\/k=1\/k=2\/k=3\/k=4:=by omega
 rcases h with rfl|rfl|rfl|rfl|rfl
 all_goals
  refine (zF (n:=0)).1 ?_;refine callsIn_of_wp Tryz.func12 rfl trivial ?_ rfl;simp only[Tryz.ntmps12,Zo,Ze,Zg,Nat.reduceAdd,Nat.reduceSub,Zi,Zj,Zk,Zl,Zm,Zp];gi_wp2_with fail
  go_ret
  exact⟨rfl,Zr⟩
end
section
attribute [local go_sem] Oper.semAt_some
theorem Eg.Of.single {c:List PEg} {x:PEg} (h:Eg.Of c [x]):c=[x]:=by
 obtain⟨y,hy,_⟩:=h.all x (by simp)
 have hx:∀z∈c,z=x:=fun z hz=>by have:=h.some z hz;simpa using this
 match c,h,hy,hx with
 | [a],_,_,hx=>rw[hx a (by simp)]
 | a::b::c,h,_,hx =>
  have h1:=(List.pairwise_cons.1 h.strict).1 b (by simp)
  rw[hx a (by simp),hx b (by simp),Eg.cmp_cm.refl x] at h1
  omega
set_option maxHeartbeats 4000000 in
theorem known17_any (w:World):Calls Tryz.prog 5 #[] w (Gives (.bool true) w):=by
 refine (zF (n:=0)).1 ?_;refine callsIn_of_wp Tryz.func5 rfl trivial ?_ rfl;simp only[Tryz.ntmps5,Zo,Zg,Nat.reduceSub,Zi,Zj,Zk,Zl,Zm,Zp];gi_wp2_with fail
 refine (callsIn_wide.2 (small16_any w)).mono ?_;rintro e w1 ⟨vh,ro,rl,rc,hs,rfl,hg,hpz,hrl,⟨h0,h1,z0,rfl,hz0,ho0,hp0⟩,b1⟩;obtain⟨oh,ch,rfl,_,_⟩:=hg.form;obtain⟨oz,cz,hvz,_,_⟩:=h0.hz.form;rw[hz0] at hvz;simp only[List.map_cons,List.map_nil,Ze,Zg,Nat.zero_add,Nat.reduceAdd] at hg hvz ⊢;obtain⟨Wy,hWy⟩:=Zq (w1.alloc (.cells #[.slice oh 2 ch,.slice ro rl rc,.int .i64 2,.int .i64 3] 25));have ky:Blk w1.heap.size #[.slice oh 2 ch,.slice ro rl rc,.int .i64 2,.int .i64 3] 25 Wy:=by rw[<-hWy];exact Blk.new w1 _ _
 have bwy:Below w1.heap.size w1 Wy:=by rw[<-hWy];exact Zr
 have g0:Wy.cell? ⟨w1.heap.size,0,none⟩=some _:=ky.cell 0;have g1:Wy.cell? ⟨w1.heap.size,1,none⟩=some _:=ky.cell 1;have g2:Wy.cell? ⟨w1.heap.size,2,none⟩=some _:=ky.cell 2;have g3:Wy.cell? ⟨w1.heap.size,3,none⟩=some _:=ky.cell 3;have hpq:(Eg.zs [h0,h1]).map Eg.pz=Eg.kz:=hpz;have HFL:=Hd (flaws_any (w:=w1) (w0:=Wy) bwy (.slice oh 2 ch) (.slice ro rl rc) (.int .i64 2) (.int .i64 3) [h0,h1] hg (by simp) hrl)
 rw[hpq,Eg.k_flaws] at HFL;have HBW:Hid (Below w.heap.size w Wy):=Z5 b1 bwy;have HKY:=Hd ky;have HBY:=Hd bwy;have HG:=Hd hg;have HZ0:Hid (GRd 2 (.slice oz 1 cz) [encZ z0] w1):=by
  have:=h0.hz
  rw[hvz,hz0] at this;exact this
 have HE0:Hid (encHo h0=[h0.vn,.int .u8 h0.a0,.int .u8 h0.a1,.int .u8 h0.a2,.int .u8 h0.a3,.slice oz 1 cz]):=by show encHo h0=_;unfold encHo;rw[hvz]
 obtain⟨oo,co,hzo,_,_⟩:=z0.ho.form;obtain⟨or,cr,hzr⟩:∃o cap,z0.vr=.slice o z0.recs.length cap:=by obtain⟨_,o,cap,h,_⟩:=z0.hr;exact⟨o,cap,by rw[h,Zf]⟩
 have hzl:z0.recs.length=2:=by rw[<-zH,hp0];rfl
 rw[ho0] at hzo;rw[hzl] at hzr;have HZE:Hid (encZ z0=[.slice oo 0 co,.slice or 2 cr]):=by show encZ z0=_;unfold encZ;rw[hzo,hzr];rfl
 have HCU:Hid (∀W',Below w1.heap.size w1 W'->Calls Tryz.prog 15 #[.agg #[.slice oo 0 co,.slice or 2 cr]] W' fun e w'=>∃o cap,e=.returned (.slice o 1 cap)/\Below W'.heap.size W' w'):=fun W' hW=>by
  have h:=egCuts_any (w:=w1) hW z0;rw[ho0,hp0,Eg.k_cuts,HZE.out] at h;exact h
 clear hg hpz hpq hrl bwy ky hvz hz0 ho0 hp0 hzo hzr hzl b1;gi_wp2_with fail
 clear g0 g1 g2 g3;refine (callsIn_wide.2 HFL.out).mono ?_;rintro e w2 ⟨v2,lf,rfl,hg2,hof,_,b2⟩;have hpl:=hof.single;obtain⟨x,rfl⟩:∃x,lf=[x]:=by
  match lf,hpl with
  | [x],_=>exact⟨x,rfl⟩
  | [],h=>exact absurd (congrArg List.length h) (by simp[plG])
  | _::_::_,h=>exact absurd (congrArg List.length h) (by simp[plG])
 have hx:x.1.2=⟨1,[],[[111]],[],1⟩:=by
  have:[x.1.2]=[_]:=hpl
  exact List.head_eq_of_cons_eq this
 have hrd:=x.2.1;have heb:=x.2.2;rw[hx] at hrd heb;obtain⟨p1,n1,c1,p2,n2,c2,p3,n3,c3,ex,_,hch,_⟩:=hrd.cells;obtain⟨o2,k2,rfl,_,_⟩:=hg2.form;simp only[List.map_cons,List.map_nil,Ze,Zg,Nat.zero_add] at hg2 ⊢;have hex:encG x=[.int .i64 1,.slice p1 n1 c1,.slice p2 n2 c2,.slice p3 n3 c3,.int .i64 1]:=ex;have HEX:=Hd hex;have HG2:=Hd hg2;have HCH:=Hd hch;have HRD:=Hd hrd;have HEB:=Hd heb;have hexr:x.1.1=[.int .i64 1,.slice p1 n1 c1,.slice p2 n2 c2,.slice p3 n3 c3,.int .i64 1]:=ex;obtain⟨ga,rfl,_⟩:=hg2.el (by decide) 0 (by simp)
 obtain⟨ha,rfl,_⟩:=HG.out.el (by decide) 0 (by simp)
 obtain⟨hb,rfl,_⟩:=HZ0.out.el (by decide) 0 (by simp)
 have HCS:Hid (∀W',Below w2.heap.size w2 W'->Cs [(ga,Value.int .i64 1),(⟨ga.block,ga.off+1,none⟩,.slice p1 n1 c1),(⟨ga.block,ga.off+2,none⟩,.slice p2 n2 c2),(⟨ga.block,ga.off+3,none⟩,.slice p3 n3 c3),(⟨ga.block,ga.off+4,none⟩,.int .i64 1)] W'):=fun W' hW=>by
  obtain⟨a,ha',r0,r1⟩:=(HG2.out.below hW).at (by decide) 0 (by simp)
  cases ha';simp only[List.getElem_cons_zero,HEX.out,Nat.zero_mul,add_zero'] at r0 r1;exact⟨r0,r1 1 (by decide) (by decide),r1 2 (by decide) (by decide),r1 3 (by decide) (by decide),r1 4 (by decide) (by decide),trivial⟩
 have HCZ:Hid (∀W',Below w1.heap.size w1 W'->W'.cell? ⟨ha.block,ha.off+5,none⟩=some (.slice (some hb) 1 cz)/\W'.cell? hb=some (.slice oo 0 co)/\W'.cell? ⟨hb.block,hb.off+1,none⟩=some (.slice or 2 cr)):=fun W' hW=>by
  obtain⟨a,ha',r0,r1⟩:=(HG.out.below hW).at (by decide) 0 (by simp)
  cases ha';obtain⟨b,hb',s0,s1⟩:=(HZ0.out.below hW).at (by decide) 0 (by simp)
  cases hb';simp only[List.getElem_cons_zero,HE0.out,HZE.out,Nat.zero_mul,add_zero'] at r0 r1 s0 s1;exact⟨r1 5 (by decide) (by decide),s0,s1 1 (by decide) (by decide)⟩
 have HSM:Hid (∀(W':World) (b:Nat),Below w1.heap.size w1 W'->Blk b #[S [111]] 9 W'->Calls Tryz.prog 16 #[.slice p2 n2 c2,.slice (some ⟨b,0,none⟩) 1 1] W' (Gives (.bool true) W')):=fun W' b hW hb=>by
  have h:=nSame_any (.slice p2 n2 c2) (.slice (some ⟨b,0,none⟩) 1 1) [[111]] [[111]] W' (HCH.out.below hW) (rd_blk [[111]] hb (by decide)) (nb_ok (by decide)) (nb_ok (by decide))
  exact h
 have HCM:Hid (∀W',Below w1.heap.size w1 W'->Calls Tryz.prog 11 #[.agg #[.int .i64 1,.slice p1 n1 c1,.slice p2 n2 c2,.slice p3 n3 c3,.int .i64 1],.agg #[.int .i64 1,.slice p1 n1 c1,.slice p2 n2 c2,.slice p3 n3 c3,.int .i64 1]] W' (Gives (.int .i64 0) W')):=fun W' hW=>by
  have h:=egCompare_any x.1.1 x.1.1 _ _ W' (HRD.out.below hW) (HRD.out.below hW) HEB.out HEB.out;rw[hexr,Eg.cmp_cm.refl] at h;exact h
 have HB12:Hid (Below w1.heap.size w1 w2):=Z5 HBY.out b2;have HB2:Hid (Below w.heap.size w w2):=Z5 HBW.out b2;have m0:=(HKY.out.below b2).cell 0;obtain⟨z5,y0,y1⟩:=HCZ.out w2 HB12.out;clear hof hpl hx hrd heb ex hch hg2 hex b2 HFL;gi_wp2_with fail
 refine (callsIn_wide.2 (HCU.out w2 HB12.out)).mono ?_;rintro e w3 ⟨o3,k3,rfl,b3⟩;have HB3:=Hd b3;have HB13:=Hd (Z5 HB12.out b3);clear b3 m0 z5 y0 y1;clear hexr;gi_wp2_with fail
 refine Z8 (List.range 48) (Cs [(ga,Value.int .i64 1),(⟨ga.block,ga.off+1,none⟩,.slice p1 n1 c1),(⟨ga.block,ga.off+2,none⟩,.slice p2 n2 c2),(⟨ga.block,ga.off+3,none⟩,.slice p3 n3 c3),(⟨ga.block,ga.off+4,none⟩,.int .i64 1)]) 49 rfl (by kernel_rfl) ?_
 intro wa hwa;have HBA:Hid (Below w2.heap.size w2 wa):=by subst hwa;exact HB3.out.drew
 have hS:=HCS.out wa HBA.out;clear hwa;refine tA 0 hS ?_;refine tA 1 hS ?_;refine tA 2 hS ?_;refine tA 3 hS ?_;refine tA 4 hS ?_;refine tA 5 hS ?_;refine tA 6 hS ?_;refine tA 7 hS ?_;simp only[Act.put,Za,Zd,Zc];refine tA 8 hS ?_;refine tA 9 hS ?_;refine tA 10 hS ?_;refine tA 11 hS ?_;refine tA 12 hS ?_;refine tA 13 hS ?_;refine tA 14 hS ?_;simp only[Act.put,Za,Zd,Zc];refine oneH 15 (by rfl) (by kernel_rfl) (fun K hK=>?_)
 gi_wp2_with fail
 obtain⟨wb,hwb⟩:=Zq (wa.alloc (.cells #[S [111]] 9));have kb:Blk wa.heap.size #[S [111]] 9 wb:=by rw[<-hwb];exact Blk.new wa _ _
 have bwb:Below wa.heap.size wa wb:=by rw[<-hwb];exact Zr
 rw[hwb];have HBB:=Hd (Z5 HBA.out bwb);replace hS:=HCS.out wb HBB.out;refine hK _ _ (fun _=>hS) ?_
 clear hK K hwb bwb;have HKB:=Hd kb;clear kb;refine oneH 16 (by rfl) (by kernel_rfl) (fun K hK=>?_)
 gi_wp2_with (gi_at_call 16;refine (callsIn_wide.2 (HSM.out wb _ (Z5 HB12.out HBB.out) HKB.out)).mono ?_;rintro e9 wc ⟨rfl,b9⟩)
 have HBC:=Hd (Z5 HBB.out b9);replace hS:=HCS.out wc HBC.out;refine hK _ _ (fun _=>hS) ?_
 clear hK K b9;refine tA 17 hS ?_;refine tA 18 hS ?_;refine tA 19 hS ?_;refine tA 20 hS ?_;refine tA 21 hS ?_;refine tA 22 hS ?_;refine tA 23 hS ?_;simp only[Act.put,Za,Zd,Zc];refine tA 24 hS ?_;refine tA 25 hS ?_;refine tA 26 hS ?_;refine tA 27 hS ?_;refine tA 28 hS ?_;refine tA 29 hS ?_;refine tA 30 hS ?_;simp only[Act.put,Za,Zd,Zc];refine oneH 31 (by rfl) (by kernel_rfl) (fun K hK=>?_)
 gi_wp2_with (gi_at_call 12;refine (callsIn_wide.2 (egWord_any 4 (by decide) wc)).mono ?_;rintro e9 wd ⟨rfl,b9⟩)
 have HBD:=Hd (Z5 HBC.out b9);replace hS:=HCS.out wd HBD.out;refine hK _ _ (fun _=>hS) ?_
 clear hK K b9;refine tA 32 hS ?_;refine tA 33 hS ?_;refine tA 34 hS ?_;simp only[Act.put,Za,Zd,Zc];refine oneH 35 (by rfl) (by kernel_rfl) (fun K hK=>?_)
 gi_wp2_with (gi_at_call 12;refine (callsIn_wide.2 (egWord_any 0 (by decide) wd)).mono ?_;rintro e9 we ⟨rfl,b9⟩)
 have HBE:=Hd (Z5 HBD.out b9);replace hS:=HCS.out we HBE.out;refine hK _ _ (fun _=>hS) ?_
 clear hK K b9;refine tA 36 hS ?_;refine tA 37 hS ?_;refine tA 38 hS ?_;refine tA 39 hS ?_;refine tA 40 hS ?_;refine tA 41 hS ?_;refine tA 42 hS ?_;refine tA 43 hS ?_;refine tA 44 hS ?_;simp only[Act.put,Za,Zd,Zc];refine oneH 45 (by rfl) (by kernel_rfl) (fun K hK=>?_)
 gi_wp2_with (gi_at_call 11;refine (callsIn_wide.2 (HCM.out we (Z5 HB12.out HBE.out))).mono ?_;rintro e9 wf ⟨rfl,b9⟩)
 have HBF:=Hd (Z5 HBE.out b9);replace hS:=HCS.out wf HBF.out;refine hK _ _ (fun _=>hS) ?_
 clear hK K b9;refine tA 46 hS ?_;refine tA 47 hS ?_;simp only[Act.put,Za,Zd,Zc];refine oneH 48 (by rfl) (by kernel_rfl) (fun K hK=>?_)
 gi_wp2_with fail
 refine hK _ _ (fun h=>absurd h (by decide)) ?_
 clear hK K;refine Z9 (by kernel_rfl) ?_
 clear hS;gi_wp2_with fail
 go_ret
 exact⟨rfl,Z5 HB2.out HBF.out⟩
end
end Go.Proofs.YtgmbefolgppmdaaGreat
