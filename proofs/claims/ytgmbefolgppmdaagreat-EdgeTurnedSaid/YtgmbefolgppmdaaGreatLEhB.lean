/- Rows of servers while they are built; a configuration as the document's. -/
import Derived.Test.YtgmbefolgppmdaaGreatLEtA
import Derived.Test.YtgmbefolgppmdaaGreatLSeW
import Derived.Test.YtgmbefolgppmdaaGreatLReg
import Derived.Test.YtgmbefolgppmdaaGreatLAli
import Derived.Test.YtgmbefolgppmdaaGreatLSgC
import Derived.Test.YtgmbefolgppmdaaGreatLEgX
namespace Go.Proofs.YtgmbefolgppmdaaGreat
open Go.RowKit Go.Shelf Go.Sort
set_option maxRecDepth 100000
section
attribute [local go_sem] Oper.semAt_some
section
variable {w:World}
theorem Row.rows {R:Nat->Prop} {e:TypeId} {k:Nat} {v:Value} {css:List (List Value)} {W:World} (h:Row R e k v css.length css.flatten W) (hc:∀c∈css,c.length=k/\∀u∈c,u.oneCell'=true):GRd k v css W:=Row.grd h hc
structure BdM (tS tQ:TypeId) (B:Nat) (ss:List (SvE w)) (css:List (List Value)) (v:Value) (W:World):Prop where
 row:Row (fun g=>B<=g) tS 6 v css.length css.flatten W
 len:css.length=ss.length
 el:∀i (h:i<css.length) (h':i<ss.length),SvC tQ ss[i] css[i] W
theorem SvC.one {tQ:TypeId} {s:SvE w} {cs:List Value} {W:World} (h:SvC tQ s cs W):cs.length=6/\∀u∈cs,u.oneCell'=true:=by
 obtain⟨vz,rfl,h2,_⟩:=h;obtain⟨oz,cz,rfl,_⟩:=h2.form;obtain⟨on,cn,hv,_⟩:=s.hn.form;rw[hv];exact⟨rfl,by simp[Value.oneCell']⟩
theorem BdM.cfc {tS tQ:TypeId} {B:Nat} {ss:List (SvE w)} {css:List (List Value)} {v:Value} {W:World} (h:BdM tS tQ B ss css v W):CfC tQ ss v W :=
 ⟨css,Row.rows h.row (fun c hc=>by
  obtain⟨i,hi,rfl⟩:=List.mem_iff_getElem.1 hc;exact (h.el i hi (by have:=h.len;omega)).one),h.len,h.el⟩
theorem BdM.below {tS tQ:TypeId} {B:Nat} {ss:List (SvE w)} {css:List (List Value)} {v:Value} {A W:World} (h:BdM tS tQ B ss css v A) (hb:Below A.heap.size A W):BdM tS tQ B ss css v W :=
 ⟨h.row.below hb,h.len,fun i hi hi'=>(h.el i hi hi').keepTy (T:=fun _=>False) (fun h=>h) (keepT.below hb)⟩
theorem BdM.set {tS tQ:TypeId} {B b o:Nat} {ss:List (SvE w)} {css:List (List Value)} {v u:Value} {W:World} (h:BdM tS tQ B ss css v W) (hb:b<B) (ht:∃c t f,W.heap[b]? = some (Obj.cells c t f)/\t≠tQ):BdM tS tQ B ss css v (W.setCell ⟨b,o,none⟩ u):=by
 refine⟨Row.setOther h.row (by omega) _,h.len,fun i hi hi'=>(h.el i hi hi').keepTy (T:=fun t=>t≠tQ) (fun h=>h rfl) (keepT.set _ ht)⟩
theorem BdM.setB {tS tQ:TypeId} {B b o:Nat} {ss:List (SvE w)} {css:List (List Value)} {v u:Value} {W:World} (h:BdM tS tQ B ss css v W) {cs:Array Value} {t:TypeId} (hk:Blk b cs t W) (hb:b<B) (ht:t≠tQ):BdM tS tQ B ss css v (W.setCell ⟨b,o,none⟩ u) :=
 h.set hb ⟨_,_,_,hk,ht⟩
theorem BdM.push {tS tQ:TypeId} (hT:tS≠tQ) {B:Nat} {ss:List (SvE w)} {css:List (List Value)} {v v10:Value} {A w10:World} (h:BdM tS tQ B ss css v A) {s:SvE w} {cs:List Value} (hs:SvC tQ s cs A)
  (hrow:Row (fun g=>B<=g) tS 6 v10 (css.length+1) (css++[cs]).flatten w10) (hgr:A.grownBy w10 v.ownBlock):BdM tS tQ B (ss++[s]) (css++[cs]) v10 w10:=by
 have hk:keepT (fun t=>t=tS) A w10:=keepT.grown hgr (fun g hg=>by
  obtain⟨c,f,h'⟩:=h.row.typ hg;exact⟨c,_,f,h',rfl⟩)
 refine⟨by rw[Zb];exact hrow,by simp[h.len],fun i hi hi'=>?_⟩
 by_cases hlt:i<css.length
 ·rw[Zt hlt,Zt (by have:=h.len;omega)]
  exact (h.el i hlt _).keepTy (fun e=>hT e.symm) hk
 ·have e:i=css.length:=by simp at hi;omega
  subst e;rw[Zs (Zh _),Zs (by have:=h.len;omega)]
  have hl:=h.len;simp only[hl,Nat.sub_self,List.getElem_singleton];exact hs.keepTy (fun e=>hT e.symm) hk
theorem sv_done {tQ:TypeId} {b:Nat} {s:SvE w} {vz:Value} {W:World} (h:Row (fun g=>b<g) tQ 2 vz s.pls.length (s.pls.map encPl).flatten W):SvC tQ s [s.vn,.int .u8 s.a0,.int .u8 s.a1,.int .u8 s.a2,.int .u8 s.a3,vz] W :=
 ⟨vz,rfl,Row.grd (by rw[Zf];exact h) (fun c hc=>by
  obtain⟨p,hp,rfl⟩:=List.mem_map.1 hc;obtain⟨o,c,hv,_⟩:=(s.hp p hp).form;unfold encPl;rw[hv];exact⟨rfl,by simp[Value.oneCell']⟩),fun o n c e a ha=>by
  subst e;subst ha;exact h.typ rfl⟩
theorem info_rserver:(Tryz.prog.info? 126).map (fun i=>(i.zero,i.size,i.bytes))=some (some (.agg #[.slice none 0 0,.int .u8 0,.int .u8 0,.int .u8 0,.int .u8 0,.slice none 0 0]),6,56):=by kernel_rfl
theorem info_rplace:(Tryz.prog.info? 128).map (fun i=>(i.zero,i.size,i.bytes))=some (some (.agg #[.slice none 0 0,S []]),2,40):=by kernel_rfl
def CfR (ss:List (SvE w)) (ro:Option Addr) (rl rc:Nat) (r1 r2:Int) (w0:World) (e:Ending) (w':World):Prop :=
 ∃vx,e=.returned (.agg #[vx,.slice ro rl rc,.int .i64 r1,.int .i64 r2])/\CfC 128 ss vx w'/\Below w0.heap.size w0 w'
set_option maxHeartbeats 8000000 in
theorem of15_any {w0:World} (hb0:Below w.heap.size w w0) (tQ:TypeId) (ss:List (SvE w)) (vs:Value) (ro:Option Addr) (rl rc:Nat) (r1 r2:Int) (hc:CfC tQ ss vs w0) (hs:ss.length<=6) (hp:∀s∈ss,s.pls.length<=4) :
  Calls Tryz.prog 23 #[.agg #[vs,.slice ro rl rc,.int .i64 r1,.int .i64 r2]] w0 (CfR ss ro rl rc r1 r2 w0):=by
 obtain⟨os,cs,rfl⟩:=hc.form;obtain⟨sl,hsl⟩:=Zq ss.length;rw[hsl] at hc ⊢;obtain⟨W2,hW2⟩:=Zq ((w0.alloc (.cells #[.slice os sl cs,.slice ro rl rc,.int .i64 r1,.int .i64 r2] 57)).alloc (.cells #[.slice none 0 0,.slice none 0 0,.int .i64 0,.int .i64 0] 75));obtain⟨W3,hW3⟩:=Zq (W2.alloc (.cells #[.slice none 0 0,.slice none 0 0,.int .i64 0,.int .i64 0] 75));have s2:W2.heap.size=w0.heap.size+2:=by rw[<-hW2];simp
 have s3:W3.heap.size=w0.heap.size+3:=by rw[<-hW3];simp;omega
 have hb2:Below w0.heap.size w0 W2:=by rw[<-hW2];exact (Zr).alloc (by simp) _
 have hb3:Below w0.heap.size w0 W3:=by rw[<-hW3];exact hb2.alloc (by omega) _
 have k0':Blk w0.heap.size #[.slice os sl cs,.slice ro rl rc,.int .i64 r1,.int .i64 r2] 57 W2:=by rw[<-hW2];exact (Blk.new w0 _ _).alloc _
 have k0:Blk w0.heap.size #[.slice os sl cs,.slice ro rl rc,.int .i64 r1,.int .i64 r2] 57 W3:=by rw[<-hW3];exact k0'.alloc _
 have k1:Blk (w0.heap.size+1) #[.slice none 0 0,.slice none 0 0,.int .i64 0,.int .i64 0] 75 W3:=by
  rw[<-hW3,<-hW2];have:=(Blk.new (w0.alloc (.cells #[.slice os sl cs,.slice ro rl rc,.int .i64 r1,.int .i64 r2] 57)) #[.slice none 0 0,.slice none 0 0,.int .i64 0,.int .i64 0] 75).alloc (.cells #[.slice none 0 0,.slice none 0 0,.int .i64 0,.int .i64 0] 75)
  rwa [World.size_alloc] at this
 have k2:Blk (w0.heap.size+2) #[.slice none 0 0,.slice none 0 0,.int .i64 0,.int .i64 0] 75 W3:=by
  have:=Blk.new W2 #[.slice none 0 0,.slice none 0 0,.int .i64 0,.int .i64 0] 75
  rwa [hW3,s2] at this
 have d1:W2.cell? ⟨w0.heap.size,1,none⟩=some _:=k0'.cell 1;have d2:W2.cell? ⟨w0.heap.size,2,none⟩=some _:=k0'.cell 2;have d3:W2.cell? ⟨w0.heap.size,3,none⟩=some _:=k0'.cell 3;have a0:W3.cell? ⟨w0.heap.size+2,0,none⟩=some _:=k2.cell 0;have a1:W3.cell? ⟨w0.heap.size+2,1,none⟩=some _:=k2.cell 1;have a2:W3.cell? ⟨w0.heap.size+2,2,none⟩=some _:=k2.cell 2;have a3:W3.cell? ⟨w0.heap.size+2,3,none⟩=some _:=k2.cell 3;have z0:=k2.frozen 0;have z1:=k2.frozen 1;have z2:=k2.frozen 2;have z3:=k2.frozen 3;obtain⟨W4,hW4⟩:=Zq ((((W3.setCell ⟨w0.heap.size+2,0,none⟩ (.slice none 0 0)).setCell ⟨w0.heap.size+2,1,none⟩ (.slice ro rl rc)).setCell ⟨w0.heap.size+2,2,none⟩ (.int .i64 r1)).setCell ⟨w0.heap.size+2,3,none⟩ (.int .i64 r2));have K0:Hid (Blk w0.heap.size #[.slice os sl cs,.slice ro rl rc,.int .i64 r1,.int .i64 r2] 57 W4):=by
  show Blk _ _ _ _;rw[<-hW4];exact (((k0.set (by omega) _).set (by omega) _).set (by omega) _).set (by omega) _
 have K1:Hid (Blk (w0.heap.size+1) #[.slice none 0 0,.slice none 0 0,.int .i64 0,.int .i64 0] 75 W4):=by
  show Blk _ _ _ _;rw[<-hW4];exact (((k1.set (by omega) _).set (by omega) _).set (by omega) _).set (by omega) _
 have K2:Hid (Blk (w0.heap.size+2) #[.slice none 0 0,.slice ro rl rc,.int .i64 r1,.int .i64 r2] 75 W4):=by
  show Blk _ _ _ _;rw[<-hW4];exact (((k2.setAt 0 _).setAt 1 _).setAt 2 _).setAt 3 _
 have HB4:Hid (Below w0.heap.size w0 W4):=by
  show Below _ _ _;rw[<-hW4];exact (((hb3.setCell (p:=⟨w0.heap.size+2,0,none⟩) (by simp) _).setCell (p:=⟨w0.heap.size+2,1,none⟩) (by simp) _).setCell (p:=⟨w0.heap.size+2,2,none⟩) (by simp) _).setCell (p:=⟨w0.heap.size+2,3,none⟩) (by simp) _
 have HS4:Hid (w0.heap.size+3<=W4.heap.size):=by have:=K2.out.lt;show _<=_;omega
 have HC:=Hd hc;have HSL:=Hd hsl;have HP:=Hd hp;have HB0:=Hd hb0;have g1:(sl:Int)<=6:=by omega
 clear hb2 hb3 k0 k1 k2 k0' hc hsl hp hb0;refine (zF (n:=0)).1 ?_;refine callsIn_of_wp Tryz.func23 rfl trivial ?_ rfl;simp only[Tryz.ntmps23,Zo,Ze,Zg,Nat.reduceAdd,Nat.reduceSub,Zi,Zj,Zk,Zl,Zm,Zp];gi_wp2
 clear d1 d2 d3 a0 a1 a2 a3 z0 z1 z2 z3 hW2 hW3 hW4 s2 s3
 gi_loopw [4] (fun vi W=>∃(i:Nat) (css:List (List Value)) (ox:Option Addr) (cx:Nat),i<=sl/\vi=.int .i64 i/\Hid (Blk w0.heap.size #[.slice os sl cs,.slice ro rl rc,.int .i64 r1,.int .i64 r2] 57 W)/\Hid (Blk (w0.heap.size+1) #[.slice none 0 0,.slice none 0 0,.int .i64 0,.int .i64 0] 75 W)/\Hid (Blk (w0.heap.size+2) #[.slice ox i cx,.slice ro rl rc,.int .i64 r1,.int .i64 r2] 75 W)/\Hid (BdM 126 128 (w0.heap.size+3) (ss.take i) css (.slice ox i cx) W)/\Hid (Below w0.heap.size w0 W)/\Hid (w0.heap.size+3<=W.heap.size)) (fun vi _=>sl-(intOf vi).toNat)
 case atStart=>exact⟨0,[],none,0,Nat.zero_le _,rfl,K0,K1,K2,⟨Row.nil _ _ _ _,rfl,fun i h=>by simp at h⟩,HB4,HS4⟩
 case round =>
  clear K0 K1 K2 HB4 HS4;obtain⟨i,css,ox,cx,hi,rfl,K0,K1,K2,HM,HB,HS⟩:=hrel;obtain⟨wr,rfl⟩:∃q,q=wr:=⟨_,rfl⟩;have y0:wr.cell? ⟨w0.heap.size,0,none⟩=some _:=K0.out.cell 0;by_cases hlt:i<sl
  case neg =>
   have hlz:¬((i:Int)<(sl:Int)):=by omega
   have x0:wr.cell? ⟨w0.heap.size+2,0,none⟩=some _:=K2.out.cell 0;have x1:wr.cell? ⟨w0.heap.size+2,1,none⟩=some _:=K2.out.cell 1;have x2:wr.cell? ⟨w0.heap.size+2,2,none⟩=some _:=K2.out.cell 2;have x3:wr.cell? ⟨w0.heap.size+2,3,none⟩=some _:=K2.out.cell 3;have u0:wr.cell? ⟨w0.heap.size+1,0,none⟩=some _:=K1.out.cell 0;have u1:wr.cell? ⟨w0.heap.size+1,1,none⟩=some _:=K1.out.cell 1;have u2:wr.cell? ⟨w0.heap.size+1,2,none⟩=some _:=K1.out.cell 2;have u3:wr.cell? ⟨w0.heap.size+1,3,none⟩=some _:=K1.out.cell 3;have z0:=K1.out.frozen 0;have z1:=K1.out.frozen 1;have z2:=K1.out.frozen 2;have z3:=K1.out.frozen 3;obtain⟨W5,hW5⟩:=Zq ((((wr.setCell ⟨w0.heap.size+1,0,none⟩ (.slice ox i cx)).setCell ⟨w0.heap.size+1,1,none⟩ (.slice ro rl rc)).setCell ⟨w0.heap.size+1,2,none⟩ (.int .i64 r1)).setCell ⟨w0.heap.size+1,3,none⟩ (.int .i64 r2));have ka:=K1.out.setAt 0 (.slice ox i cx);have kb:=ka.setAt 1 (.slice ro rl rc);have kc:=kb.setAt 2 (.int .i64 r1);have kd:=kc.setAt 3 (.int .i64 r2);have hm:=(((HM.out.setB (o:=0) (u:=.slice ox i cx) K1.out (by omega) (by decide)).setB (o:=1) (u:=.slice ro rl rc) ka (by omega) (by decide)).setB (o:=2) (u:=.int .i64 r1) kb (by omega) (by decide)).setB (o:=3) (u:=.int .i64 r2) kc (by omega) (by decide)
   have hb5:=(((HB.out.setCell (p:=⟨w0.heap.size+1,0,none⟩) (by simp) (.slice ox i cx)).setCell (p:=⟨w0.heap.size+1,1,none⟩) (by simp) (.slice ro rl rc)).setCell (p:=⟨w0.heap.size+1,2,none⟩) (by simp) (.int .i64 r1)).setCell (p:=⟨w0.heap.size+1,3,none⟩) (by simp) (.int .i64 r2)
   rw[hW5] at kd hm hb5;have KD:=Hd kd;have HM5:=Hd hm;have HB5:=Hd hb5;clear ka kb kc kd hm hb5;gi_wp2
   have e0:W5.cell? ⟨w0.heap.size+1,0,none⟩=some (.slice ox i cx):=KD.out.cell 0;have e1:W5.cell? ⟨w0.heap.size+1,1,none⟩=some (.slice ro rl rc):=KD.out.cell 1;have e2:W5.cell? ⟨w0.heap.size+1,2,none⟩=some (.int .i64 r1):=KD.out.cell 2;have e3:W5.cell? ⟨w0.heap.size+1,3,none⟩=some (.int .i64 r2):=KD.out.cell 3;refine bodyPost_ret (v:=.agg #[.slice ox i cx,.slice ro rl rc,.int .i64 r1,.int .i64 r2]) (by simp[results,Tryz.results23,go_sem,e0,e1,e2,e3]) rfl ?_
   have h:=HM5.out.cfc;rw[List.take_of_length_le (by have:=HSL.out;omega)] at h
   exact⟨_,rfl,h,HB5.out⟩
  case pos =>
  have hlz:(i:Int)<(sl:Int):=by omega
  have his:i<ss.length:=by rw[HSL.out];exact hlt
  obtain⟨a,oz,cz,rfl,hz,hcell⟩:=HC.out.at i his;obtain⟨s,hs⟩:=Zq (ss[i]);rw[hs] at hz hcell;have hpl:s.pls.length<=4:=HP.out s (by rw[<-hs];exact List.getElem_mem _)
  have HTK:Hid (ss.take (i+1)=ss.take i++[s]):=by show _=_;rw[Zx his,hs]
  obtain⟨pl,hpl'⟩:∃n,s.pls.length=n:=⟨_,rfl⟩;rw[hpl'] at hz hcell hpl;obtain⟨on,cn,hvn,hf1,hf2⟩:=s.hn.form;rw[hvn] at hcell;obtain⟨nl,hnl⟩:=Zq s.name.length;rw[hnl] at hcell hvn;obtain⟨b0,hb0⟩:=Zq s.a0;obtain⟨b1,hb1⟩:=Zq s.a1;obtain⟨b2,hb2⟩:=Zq s.a2;obtain⟨b3,hb3⟩:=Zq s.a3;rw[hb0,hb1,hb2,hb3] at hcell;obtain⟨ea,hea⟩:=Zq (a.add (i*6));rw[hea] at hcell;have HCE:=Hd hcell;have HZ:=Hd hz;have HPL:=Hd hpl';have HVN:Hid ([s.vn,.int .u8 s.a0,.int .u8 s.a1,.int .u8 s.a2,.int .u8 s.a3]=[.slice on nl cn,.int .u8 b0,.int .u8 b1,.int .u8 b2,.int .u8 b3]):=by show _=_;rw[hvn,hb0,hb1,hb2,hb3]
  have HSS:Hid (∀W',Below w0.heap.size w0 W'->W'.cell? ⟨w0.heap.size,0,none⟩=some (.slice (some a) sl cs)->Cs [(⟨w0.heap.size,0,none⟩,.slice (some a) sl cs),(ea,.slice on nl cn),(⟨ea.block,ea.off+1,none⟩,.int .u8 b0),(⟨ea.block,ea.off+2,none⟩,.int .u8 b1),(⟨ea.block,ea.off+3,none⟩,.int .u8 b2),(⟨ea.block,ea.off+4,none⟩,.int .u8 b3)] W'):=fun W' hW h0=>by
   obtain⟨e0,e1,e2,e3,e4,e5⟩:=hcell W' hW;exact⟨h0,e0,e1,e2,e3,e4,trivial⟩
  have g2:(pl:Int)<=4:=by omega
  clear hs hz hcell hvn hf1 hf2 hnl hb0 hb1 hb2 hb3 hpl';gi_wp2_with fail
  refine Z8 [1,4,5,7,9,10,11,12,13] (Cs [(⟨w0.heap.size,0,none⟩,.slice (some a) sl cs),(ea,.slice on nl cn),(⟨ea.block,ea.off+1,none⟩,.int .u8 b0),(⟨ea.block,ea.off+2,none⟩,.int .u8 b1),(⟨ea.block,ea.off+3,none⟩,.int .u8 b2),(⟨ea.block,ea.off+4,none⟩,.int .u8 b3)]) 15 rfl (by kernel_rfl) ?_
  intro wa hwa;have HBA:Hid (Below wr.heap.size wr wa):=by subst hwa;exact (Below.refl _ _).drew
  have hS:=HSS.out wa (HB.out.trans (HBA.out.mono (by have:=HS.out;omega))) (K0.out.below HBA.out |>.cell 0)
  clear hwa y0;refine tB 0 ?_;refine tB 2 ?_;refine tB 6 ?_;refine tB 8 ?_;refine tA 1 hS ?_;refine tB 3 ?_;refine tA 4 hS ?_;refine tA 7 hS ?_;refine tA 9 hS ?_;refine tA 10 hS ?_;refine tA 5 hS ?_;refine tA 11 hS ?_;simp only[Act.put,Za,Zd,Zc];refine tA 12 hS ?_;refine oneH 13 (by rfl) (by kernel_rfl) (fun K hK=>?_)
  gi_wp2_with fail
  obtain⟨Wb,hWb⟩:=Zq (wa.alloc (.cells #[.slice none 0 0,.int .u8 0,.int .u8 0,.int .u8 0,.int .u8 0,.slice none 0 0] 126));obtain⟨bs,hbs⟩:=Zq wa.heap.size;have kb:Blk bs #[.slice none 0 0,.int .u8 0,.int .u8 0,.int .u8 0,.int .u8 0,.slice none 0 0] 126 Wb:=by rw[<-hbs,<-hWb];exact Blk.new wa _ _
  have hbb:Below wa.heap.size wa Wb:=by rw[<-hWb];exact Zr
  have hszb:bs+1=Wb.heap.size:=by rw[<-hWb,<-hbs];simp
  have hbw:w0.heap.size+3<=bs:=by rw[<-hbs];exact Nat.le_trans HS.out HBA.out.size
  rw[hWb,hbs];have HBB:=Hd (Z5 HBA.out hbb);refine hK _ _ (fun _=>HSS.out Wb (HB.out.trans (HBB.out.mono (by have:=HS.out;omega))) (K0.out.below HBB.out |>.cell 0)) ?_
  clear hK K hS;have u0:Wb.cell? ⟨bs,0,none⟩=some _:=kb.cell 0;have u1:Wb.cell? ⟨bs,1,none⟩=some _:=kb.cell 1;have u2:Wb.cell? ⟨bs,2,none⟩=some _:=kb.cell 2;have u3:Wb.cell? ⟨bs,3,none⟩=some _:=kb.cell 3;have u4:Wb.cell? ⟨bs,4,none⟩=some _:=kb.cell 4;have u5:Wb.cell? ⟨bs,5,none⟩=some _:=kb.cell 5;have z0:=kb.frozen 0;have z1:=kb.frozen 1;have z2:=kb.frozen 2;have z3:=kb.frozen 3;have z4:=kb.frozen 4;have z5:=kb.frozen 5;obtain⟨Wd,hWd⟩:=Zq ((((((Wb.setCell ⟨bs,0,none⟩ (.slice on nl cn)).setCell ⟨bs,1,none⟩ (.int .u8 b0)).setCell ⟨bs,2,none⟩ (.int .u8 b1)).setCell ⟨bs,3,none⟩ (.int .u8 b2)).setCell ⟨bs,4,none⟩ (.int .u8 b3)).setCell ⟨bs,5,none⟩ (.slice none 0 0));have kd:=(((((kb.setAt 0 (.slice on nl cn)).setAt 1 (.int .u8 b0)).setAt 2 (.int .u8 b1)).setAt 3 (.int .u8 b2)).setAt 4 (.int .u8 b3)).setAt 5 (.slice none 0 0);have hbd:Below bs wa Wd:=by
   rw[<-hWd];have h:=hbb;rw[hbs] at h;exact (((((h.setCell (p:=⟨bs,0,none⟩) (by simp) _).setCell (p:=⟨bs,1,none⟩) (by simp) _).setCell (p:=⟨bs,2,none⟩) (by simp) _).setCell (p:=⟨bs,3,none⟩) (by simp) _).setCell (p:=⟨bs,4,none⟩) (by simp) _).setCell (p:=⟨bs,5,none⟩) (by simp) _
  have hsd:bs+1<=Wd.heap.size:=by rw[<-hWd];simp[World.setCell];omega
  rw[hWd] at kd;have KD:=Hd kd;have HBD:=Hd hbd;have HSD:=Hd hsd;refine oneH 14 (by rfl) (by kernel_rfl) (fun K hK=>?_)
  gi_wp2
  refine hK _ _ (fun h=>absurd h (by decide)) ?_
  clear hK K;refine Z9 (by kernel_rfl) ?_
  clear u0 u1 u2 u3 u4 u5 z0 z1 z2 z3 z4 z5 kb kd hbd hsd hWb hWd hbb hszb;have HBS:=Hd hbs;clear hbs;gi_wp2_with fail
  gi_loopw [6] (fun vj W=>∃(j:Nat) (oy:Option Addr) (cy:Nat),j<=pl/\vj=.int .i64 j/\Hid (Blk bs #[.slice on nl cn,.int .u8 b0,.int .u8 b1,.int .u8 b2,.int .u8 b3,.slice oy j cy] 126 W)/\Hid (Row (fun g=>bs<g) 128 2 (.slice oy j cy) j ((s.pls.take j).map encPl).flatten W)/\Hid (Below bs wa W)/\Hid (bs+1<=W.heap.size)) (fun vj _=>pl-(intOf vj).toNat)
  case atStart=>exact⟨0,none,0,Nat.zero_le _,rfl,KD,Row.nil _ _ _ _,HBD,HSD⟩
  case round =>
   clear KD HBD HSD HBB;obtain⟨j,oy,cy,hj,rfl,KJ,HRJ,HBJ,HSJ⟩:=hrel;obtain⟨wj,rfl⟩:∃q,q=wr:=⟨_,rfl⟩;have HJW:Hid (∀W',Below bs wa W'->Below w0.heap.size w0 W'/\W'.cell? ⟨w0.heap.size,0,none⟩=some (.slice (some a) sl cs)):=fun W' hW =>
    have h1:Below wr.heap.size wr W':=HBA.out.trans (hW.mono (by rw[<-HBS.out];exact HBA.out.size))
    ⟨HB.out.trans (h1.mono (by have:=HS.out;omega)),(K0.out.below h1).cell 0⟩
   obtain⟨hjb,y0⟩:=HJW.out wj HBJ.out;obtain⟨_,_,_,_,_,y5⟩:=HCE.out wj hjb;by_cases hlj:j<pl
   case neg =>
    have hljz:¬((j:Int)<(pl:Int)):=by omega
    obtain rfl:j=pl:=by omega
    have hbj:Below wr.heap.size wr wj:=HBA.out.trans (HBJ.out.mono (by rw[<-HBS.out];exact HBA.out.size))
    have HSV:Hid (SvC 128 s [.slice on nl cn,.int .u8 b0,.int .u8 b1,.int .u8 b2,.int .u8 b3,.slice oy j cy] wj):=by
     have h:=sv_done (s:=s) (vz:=.slice oy j cy) (b:=bs) (W:=wj) (by
      have h:=HRJ.out;rw[<-HPL.out,List.take_length] at h;rw[HPL.out] at h ⊢;exact h)
     have e:=HVN.out;simp only[List.cons.injEq] at e;obtain⟨e0,e1,e2,e3,e4,_⟩:=e;rw[e0,e1,e2,e3,e4] at h;exact h
    have HMJ:=Hd (HM.out.below hbj);have hil:css.length=i:=by rw[HM.out.len,List.length_take];have:=HSL.out;omega
    have HIL:=Hd hil;have HNB:Hid (Below wj.heap.size wj (wj.alloc (.cells #[.slice on nl cn,.int .u8 b0,.int .u8 b1,.int .u8 b2,.int .u8 b3,.slice oy j cy] 126))):=Zr;have HX0:=Hd (K0.out.below hbj);have HX1:=Hd (K1.out.below hbj);have HX2:=Hd (K2.out.below hbj);have HBW:=Hd (HB.out.trans (hbj.mono (by have:=HS.out;omega)))
    have HSW:Hid (w0.heap.size+3<=wj.heap.size):=Nat.le_trans HS.out hbj.size;have hrow:Row (fun g=>w0.heap.size+3<=g) 126 6 (.slice ox i cx) i css.flatten wj:=by have h:=HMJ.out.row;rwa [hil] at h
    have HROW:=Hd hrow;have x0:wj.cell? ⟨w0.heap.size+2,0,none⟩=some (.slice ox i cx):=HX2.out.cell 0;have xf:=HX2.out.frozen 0;have t0:wj.cell? ⟨bs,0,none⟩=some _:=KJ.out.cell 0;have t1:wj.cell? ⟨bs,1,none⟩=some _:=KJ.out.cell 1;have t2:wj.cell? ⟨bs,2,none⟩=some _:=KJ.out.cell 2;have t3:wj.cell? ⟨bs,3,none⟩=some _:=KJ.out.cell 3;have t4:wj.cell? ⟨bs,4,none⟩=some _:=KJ.out.cell 4;have t5:wj.cell? ⟨bs,5,none⟩=some _:=KJ.out.cell 5;clear hrow hbj hil;gi_wp2_with (gi_at_builtin;refine Z7 (fun g=>w0.heap.size+3<=g) 126 _ 6 56 info_rserver rfl (by decide) rfl _ _ _ Tryz.underlying73 rfl _ i css (by rfl) (HROW.out.below HNB.out) _ [[.slice on nl cn,.int .u8 b0,.int .u8 b1,.int .u8 b2,.int .u8 b3,.slice oy j cy]] (by rfl) (GRd.new [.slice on nl cn,.int .u8 b0,.int .u8 b1,.int .u8 b2,.int .u8 b3,.slice oy j cy] rfl (by simp[Value.oneCell']) wj 126) (by simp;omega) (by omega) (by have:=HSW.out;simp;omega) ?_;intro v10 w10 hrow10 hgr10;obtain⟨o10,c10,e10⟩:=hrow10.form;subst e10;have y2:Blk (w0.heap.size+2) #[.slice ox i cx,.slice ro rl rc,.int .i64 r1,.int .i64 r2] 75 w10:=(hgr10.block _ (by have:=HSW.out;simp;omega) (fun e=>by have:=HROW.out.2 _ e.symm;omega)).trans (HX2.out.below HNB.out);have y0:=y2.cell 0;have y1:=y2.frozen 0;have HR10:=Hd hrow10;have HG10:=Hd hgr10;have HY2:=Hd y2;clear hrow10 hgr10 y2)
    have hm:=BdM.push (v10:=.slice o10 (i+1) c10) (by decide) (HMJ.out.below HNB.out) (HSV.out.keepTy (T:=fun _=>False) (fun h=>h) (keepT.below HNB.out)) (by rw[HIL.out];exact HR10.out) HG10.out
    rw[<-HTK.out] at hm;have hk1:Blk (w0.heap.size+1) #[.slice none 0 0,.slice none 0 0,.int .i64 0,.int .i64 0] 75 w10:=(HG10.out.block _ (by have:=HSW.out;simp;omega) (fun e=>by have:=HROW.out.2 _ e.symm;omega)).trans (HX1.out.below HNB.out)
    have hk0:Blk w0.heap.size #[.slice (some a) sl cs,.slice ro rl rc,.int .i64 r1,.int .i64 r2] 57 w10:=(HG10.out.block _ (by have:=HSW.out;simp;omega) (fun e=>by have:=HROW.out.2 _ e.symm;omega)).trans (HX0.out.below HNB.out)
    have hb10:Below w0.heap.size w0 w10:=(HBW.out.trans (HNB.out.mono (by have:=HSW.out;omega))).grown HG10.out (by have:=HSW.out;simp;omega) (fun g hg=>by have:=HROW.out.2 g hg;omega)
    have hs10:w0.heap.size+3<=w10.heap.size:=by have h1:=HSW.out;have h2:=HG10.out.size;simp at h2;omega
    refine⟨⟨i+1,_,o10,c10,hlt,by go_num,hk0.set (by omega) _,hk1.set (by omega) _,HY2.out.setAt 0 _,hm.setB (o:=0) (u:=.slice o10 (i+1) c10) HY2.out (by omega) (by decide),hb10.setCell (p:=⟨w0.heap.size+2,0,none⟩) (by simp) _,by show _<=_;simpa[World.setCell] using hs10⟩,by simp[intOf];omega⟩
   case pos =>
   have hljz:(j:Int)<(pl:Int):=by omega
   have hjp:j<s.pls.length:=by rw[HPL.out];exact hlj
   obtain⟨b,rfl,hpc⟩:=pl_at HZ.out j hjp;obtain⟨p,hp⟩:=Zq (s.pls[j]);have hpr:=s.hp p (by rw[<-hp];exact List.getElem_mem _)
   rw[hp] at hpc;have HPT:Hid (s.pls.take (j+1)=s.pls.take j++[p]):=by show _=_;rw[Zx hjp,hp]
   obtain⟨op,cp,hvp,hf1,hf2⟩:=hpr.form;obtain⟨np,hnp⟩:=Zq p.2.length;rw[hvp,hnp] at hpc;have HEP:Hid (encPl p=[.slice op np cp,S [120]]):=by show _=_;unfold encPl;rw[hvp,hnp]
   obtain⟨eb,heb⟩:=Zq (b.add (j*2));rw[heb] at hpc;have HPC:=Hd hpc;have HSJS:Hid (∀W',Below bs wa W'->W'.cell? ⟨bs,5,none⟩=some (.slice oy j cy)->Cs [(⟨bs,5,none⟩,.slice oy j cy),(⟨w0.heap.size,0,none⟩,.slice (some a) sl cs),(⟨ea.block,ea.off+5,none⟩,.slice (some b) pl cz),(eb,.slice op np cp),(⟨eb.block,eb.off+1,none⟩,S [120])] W'):=fun W' hW h5=>by
    obtain⟨h1,h2⟩:=HJW.out W' hW;obtain⟨_,_,_,_,_,e5⟩:=HCE.out W' h1;obtain⟨d0,d1⟩:=HPC.out W' h1;exact⟨h5,h2,e5,d0,d1,trivial⟩
   clear hp hpr hpc hvp hf1 hf2 hnp y0 y5 hjb;obtain⟨y1,y2,y3,y4,y5,_⟩:=HSJS.out wj HBJ.out (KJ.out.cell 5);gi_wp2_with fail
   refine Z8 [1,3,6,7,9,10,11,13,15,16,17,19,20,21,22,23,24] (Cs [(⟨bs,5,none⟩,.slice oy j cy),(⟨w0.heap.size,0,none⟩,.slice (some a) sl cs),(⟨ea.block,ea.off+5,none⟩,.slice (some b) pl cz),(eb,.slice op np cp),(⟨eb.block,eb.off+1,none⟩,S [120])]) 27 rfl (by kernel_rfl) ?_
   intro wc hwc;have HBC:Hid (Below wj.heap.size wj wc):=by subst hwc;exact (Below.refl _ _).drew
   have HWC:Hid (Below bs wa wc):=by show Below _ _ _;subst hwc;exact HBJ.out.drew
   have hS:=HSJS.out wc HWC.out ((KJ.out.below HBC.out).cell 5);clear hwc y1 y2 y3 y4 y5;refine tB 0 ?_;refine tB 2 ?_;refine tB 4 ?_;refine tB 8 ?_;refine tB 12 ?_;refine tB 14 ?_;refine tB 18 ?_;refine tA 3 hS ?_;refine tB 5 ?_;refine tA 6 hS ?_;refine tA 7 hS ?_;refine tA 9 hS ?_;refine tA 10 hS ?_;refine tA 13 hS ?_;refine tA 15 hS ?_;refine tA 16 hS ?_;refine tA 17 hS ?_;simp only[Act.put,Za,Zd,Zc];refine tA 19 hS ?_;refine tA 20 hS ?_;refine tA 1 hS ?_;refine tA 11 hS ?_;refine tA 21 hS ?_;simp only[Act.put,Za,Zd,Zc];refine tA 22 hS ?_;refine oneH 23 (by rfl) (by kernel_rfl) (fun K hK=>?_)
   gi_wp2_with fail
   obtain⟨W9,hW9⟩:=Zq (wc.alloc (.cells #[.slice op np cp,S [120]] 128));have hb9:Below wc.heap.size wc W9:=by rw[<-hW9];exact Zr
   have HG9:Hid (GRd 2 (.slice (some ⟨wc.heap.size,0,none⟩) 1 1) [[.slice op np cp,S [120]]] W9):=by
    show GRd _ _ _ _;rw[<-hW9];exact GRd.new [.slice op np cp,S [120]] rfl (by simp[Value.oneCell']) wc 128
   have HB9:=Hd (Z5 HBC.out hb9);have HS9:Hid (bs+1<=W9.heap.size):=by have h1:=HSJ.out;have h2:=HB9.out.size;show _<=_;omega
   have HW9:Hid (Below bs wa W9):=HWC.out.trans (hb9.mono (by have h1:=HSJ.out;have h2:=HBC.out.size;omega))
   rw[hW9];refine hK _ _ (fun _=>HSJS.out W9 HW9.out ((KJ.out.below HB9.out).cell 5)) ?_
   clear hK K hS hW9 hb9;refine oneH 24 (by rfl) (by kernel_rfl) (fun K hK=>?_)
   gi_wp2_with (gi_at_builtin;refine Z7 (fun g=>bs<g) 128 _ 2 40 info_rplace rfl (by decide) rfl _ _ _ Tryz.underlying124 rfl _ j ((s.pls.take j).map encPl) (by rfl) (HRJ.out.below HB9.out) _ [[.slice op np cp,S [120]]] (by rfl) HG9.out (by simp;omega) (by omega) (by have:=HS9.out;omega) ?_;intro v10 w10 hrow10 hgr10;obtain⟨o10,c10,e10⟩:=hrow10.form;subst e10;have HR10:=Hd hrow10;have HG10:=Hd hgr10;clear hrow10 hgr10)
   have k10:Blk bs #[.slice on nl cn,.int .u8 b0,.int .u8 b1,.int .u8 b2,.int .u8 b3,.slice oy j cy] 126 w10:=(HG10.out.block bs (by have:=HS9.out;omega) (fun e=>by have:=HRJ.out.2 _ e.symm;omega)).trans (KJ.out.below HB9.out)
   have HB10:Hid (Below bs wa w10):=HW9.out.grown HG10.out (by have:=HS9.out;omega) (fun g hg=>by have:=HRJ.out.2 g hg;omega)
   have hs10:bs+1<=w10.heap.size:=by have h1:=HS9.out;have h2:=HG10.out.size;omega
   have hS:=HSJS.out w10 HB10.out (k10.cell 5);refine hK _ _ (fun _=>hS) ?_
   clear hK K;refine tB 25 ?_;have z5:=k10.frozen 5;have u5:w10.cell? ⟨bs,5,none⟩=some _:=k10.cell 5;have K10:=Hd k10;have HS10:=Hd hs10;refine oneH 26 (by rfl) (by kernel_rfl) (fun K hK=>?_)
   gi_wp2_with fail
   refine hK _ _ (fun h=>absurd h (by decide)) ?_
   clear hK K hS;refine Z9 (by kernel_rfl) ?_
   clear u5 z5 k10 hs10;gi_wp2_with fail
   refine⟨⟨j+1,o10,c10,hlj,by go_num,K10.out.setAt 5 _,?_,HB10.out.setCell (p:=⟨bs,5,none⟩) (by simp) _,by show _<=_;simpa[World.setCell] using HS10.out⟩,by simp[intOf];omega⟩
   show Row _ _ _ _ _ _ _;rw[HPT.out,List.map_append,List.map_cons,List.map_nil,HEP.out];exact Row.setOther HR10.out (by omega) _
end
end
section
attribute [local go_sem] Oper.semAt_some
def OfAllT {w:World} (l:List (El w)) (w0:World) (e:Ending) (w':World):Prop:=∃(v':Value) (ys:List RP),e=.returned v'/\Row (fun g=>w0.heap.size<=g) 119 7 v' ys.length (ys.map (·.1)).flatten w'/\plD ys=plE l/\(∀y∈ys,OfR7 w y.1 y.2 w')/\Below w0.heap.size w0 w'
theorem OfR7.keepT {w:World} {T:TypeId->Prop} {cs:List Value} {r:Rc.PRec} {A B:World} (h:OfR7 w cs r A) (ht:¬T 37) (hk:keepT T A B):OfR7 w cs r B:=by
 obtain⟨vo,ds,h1,h2,us,ox,cx,vm,vt,vr,e,h3,h4⟩:=h;refine⟨vo,ds,h1,h2,us,ox,cx,vm,vt,vr,e,h3.kept fun g c t f hv hg=>?_,h4⟩
 obtain⟨c1,f1,h5⟩:=h3.typ hv;rw[hg] at h5;cases h5;exact hk _ _ _ _ hg ht
def Stable {α:Type} (T:TypeId->Prop) (P:α->List Value->World->Prop):Prop:=∀a cs A B,P a cs A->keepT T A B->P a cs B
structure BdG {α:Type} (P:α->List Value->World->Prop) (tS:TypeId) (k B:Nat) (ss:List α) (css:List (List Value)) (v:Value) (W:World):Prop where
 row:Row (fun g=>B<=g) tS k v css.length css.flatten W
 len:css.length=ss.length
 el:∀i (h:i<css.length) (h':i<ss.length),P ss[i] css[i] W
section
variable {α:Type} {T:TypeId->Prop} {P:α->List Value->World->Prop}
theorem BdG.nil {tS:TypeId} {k B:Nat} {W:World}:BdG P tS k B [] [] (.slice none 0 0) W:=⟨Row.nil _ _ _ _,rfl,fun i h=>by simp at h⟩
theorem BdG.below (hS:Stable T P) {tS:TypeId} {k B:Nat} {ss:List α} {css:List (List Value)} {v:Value} {A W:World} (h:BdG P tS k B ss css v A) (hb:Below A.heap.size A W):BdG P tS k B ss css v W :=
 ⟨h.row.below hb,h.len,fun i hi hi'=>hS _ _ _ _ (h.el i hi hi') (keepT.below hb)⟩
theorem BdG.setB (hS:Stable T P) {tS:TypeId} {k B b o:Nat} {ss:List α} {css:List (List Value)} {v u:Value} {W:World} (h:BdG P tS k B ss css v W) {cs:Array Value} {t:TypeId} (hk:Blk b cs t W) (hb:b<B) (ht:T t):BdG P tS k B ss css v (W.setCell ⟨b,o,none⟩ u) :=
 ⟨Row.setOther h.row (by omega) _,h.len,fun i hi hi'=>hS _ _ _ _ (h.el i hi hi') (keepT.set _ ⟨_,_,_,hk,ht⟩)⟩
theorem BdG.push (hS:Stable T P) {tS:TypeId} (hT:T tS) {k B:Nat} {ss:List α} {css:List (List Value)} {v v10:Value} {A w10:World} (h:BdG P tS k B ss css v A) {s:α} {cs:List Value} (hs:P s cs A)
  (hrow:Row (fun g=>B<=g) tS k v10 (css.length+1) (css++[cs]).flatten w10) (hgr:A.grownBy w10 v.ownBlock):BdG P tS k B (ss++[s]) (css++[cs]) v10 w10:=by
 have hk:keepT T A w10:=keepT.grown hgr (fun g hg=>by
  obtain⟨c,f,h'⟩:=h.row.typ hg;exact⟨c,_,f,h',hT⟩)
 refine⟨by rw[Zb];exact hrow,by simp[h.len],fun i hi hi'=>?_⟩
 by_cases hlt:i<css.length
 ·rw[Zt hlt,Zt (by have:=h.len;omega)]
  exact hS _ _ _ _ (h.el i hlt _) hk
 ·have e:i=css.length:=by simp at hi;omega
  subst e;rw[Zs (Zh _),Zs (by have:=h.len;omega)]
  have hl:=h.len;simp only[hl,Nat.sub_self,List.getElem_singleton];exact hS _ _ _ _ hs hk
end
theorem Row.ty {R:Nat->Prop} {e:TypeId} {k n:Nat} {v:Value} {xs:List Value} {W:World} (h:Row R e k v n xs W):Ty v e W:=fun o n c e' a ha=>by
 subst e';subst ha;exact h.typ rfl
section
variable {w:World}
def ZfC (z:ZE w) (cs:List Value) (W:World):Prop :=
 ∃(v:Value) (ys:List RP),cs=[z.vo,v]/\GRd 7 v (ys.map (·.1)) W/\Ty v 119 W/\plD ys=plE z.recs/\∀y∈ys,OfR7 w y.1 y.2 W
theorem ZfC.stable {T:TypeId->Prop} (h1:¬T 119) (h2:¬T 37):Stable T (ZfC (w:=w)):=fun z cs A B h hk=>by
 obtain⟨v,ys,e,a1,a2,a3,a4⟩:=h;exact⟨v,ys,e,a1.keepTy a2 h1 hk,a2.keep h1 hk,a3,fun y hy=>(a4 y hy).keepT h2 hk⟩
theorem ZfC.one {z:ZE w} {cs:List Value} {W:World} (h:ZfC z cs W):cs.length=2/\∀u∈cs,u.oneCell'=true:=by
 obtain⟨v,ys,rfl,a1,_⟩:=h;obtain⟨o,c,rfl,_⟩:=a1.form;obtain⟨p,q,hv,_⟩:=z.ho.form;rw[hv];exact⟨rfl,by simp[Value.oneCell']⟩
def HfC (h:HE w) (cs:List Value) (W:World):Prop :=
 ∃(vz:Value) (czs:List (List Value)),cs=[h.vn,.int .u8 h.a0,.int .u8 h.a1,.int .u8 h.a2,.int .u8 h.a3,vz]/\GRd 2 vz czs W/\Ty vz 66 W/\czs.length=h.zones.length/\∀i (h1:i<czs.length) (h2:i<h.zones.length),ZfC h.zones[i] czs[i] W
theorem HfC.stable {T:TypeId->Prop} (h1:¬T 119) (h2:¬T 37) (h3:¬T 66):Stable T (HfC (w:=w)):=fun z cs A B h hk=>by
 obtain⟨v,czs,e,a1,a2,a3,a4⟩:=h;exact⟨v,czs,e,a1.keepTy a2 h3 hk,a2.keep h3 hk,a3,fun i h4 h5=>ZfC.stable h1 h2 _ _ _ _ (a4 i h4 h5) hk⟩
theorem HfC.one {h:HE w} {cs:List Value} {W:World} (hf:HfC h cs W):cs.length=6/\∀u∈cs,u.oneCell'=true:=by
 obtain⟨v,ys,rfl,a1,_⟩:=hf;obtain⟨o,c,rfl,_⟩:=a1.form;obtain⟨p,q,hv,_⟩:=h.hn.form;rw[hv];exact⟨rfl,by simp[Value.oneCell']⟩
def SameZ {w1 w2:World} (a:List (HE w1)) (b:List (HE w2)):Prop:=a.map (fun h=>h.zones.map fun z=>(z.origin,plE z.recs))=b.map (fun h=>h.zones.map fun z=>(z.origin,plE z.recs))
def Of12R (z:ZE w) (w0:World) (e:Ending) (w':World):Prop:=∃cs:List Value,e=.returned (.agg cs.toArray)/\ZfC z cs w'/\Below w0.heap.size w0 w'
end
end
end Go.Proofs.YtgmbefolgppmdaaGreat
