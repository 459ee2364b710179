/- toponymlaw16.Small. -/
import Derived.Test.YtgmbefolgppmdaaGreatLEhB
import Derived.Test.YtgmbefolgppmdaaGreatLEhO
import Derived.Test.YtgmbefolgppmdaaGreatLEgY
import Derived.Test.YtgmbefolgppmdaaGreatLAli
namespace Go.Proofs.YtgmbefolgppmdaaGreat
open Go.RowKit Go.Shelf Go.Sort
set_option maxRecDepth 100000
attribute [local go_sem] Oper.semAt_some
theorem sl_blk {b:Nat} {cs:List Value} {t:TypeId} {W:World} (h:Blk b cs.toArray t W) (hl:cs.length<=1000):Sl (.slice (some ⟨b,0,none⟩) cs.length cs.length) cs W:=by
 refine⟨_,_,rfl,Zh _,by unfold maxLen;omega,(fun h=>by cases h),fun j hj=>⟨_,rfl,?_⟩⟩
 have hadd:(⟨b,0,none⟩:Addr).add j=⟨b,j,none⟩:=by unfold Addr.add;split<;>simp_all
 rw[hadd,h.cell j];simp[hj]
theorem rd_blk {b:Nat} (l:List (List UInt8)) {W:World} (h:Blk b (l.map S).toArray 9 W) (hl:l.length<=1000):Rd (.slice (some ⟨b,0,none⟩) l.length l.length) l W:=by
 have:=sl_blk h (by simpa using hl)
 rw[Zf] at this;exact sl_rd this
theorem nb_ok {l:List (List UInt8)} (h:(decide (l.length<=1000)&&l.all fun x=>decide (x.length<=1000))=true):NB l:=by
 simp only[Bool.and_eq_true,decide_eq_true_eq,List.all_eq_true] at h;exact h
theorem recs_blk {W:World} {b:Nat} (l:List (El W)) (h:Blk b (l.flatMap encE).toArray 110 W) (hl:l.length<=100):RecsRd (.slice (some ⟨b,0,none⟩) l.length l.length) (l.map (·.1)) W:=by
 refine⟨fun x hx=>?_,some ⟨b,0,none⟩,l.length,by rw[Zf],by rw[Zf];exact Zh _,by unfold maxLen;omega,(fun h=>by cases h),fun j hj=>⟨_,rfl,?_⟩⟩
 ·obtain⟨y,_,rfl⟩:=List.mem_map.1 hx
  exact y.2.1
 ·have hadd:(⟨b,0,none⟩:Addr).add j=⟨b,j,none⟩:=by unfold Addr.add;split<;>simp_all
  have hj':=hj;rw[encP_map] at hj';rw[hadd,h.cell j,<-zN hj,encP_map];simp
theorem grd_blk {b k:Nat} {t:TypeId} {W:World} (rows:List (List Value)) (h:Blk b rows.flatten.toArray t W) (hk:∀c∈rows,c.length=k/\∀u∈c,u.oneCell'=true) (hl:rows.length<=100):GRd k (.slice (some ⟨b,0,none⟩) rows.length rows.length) rows W:=by
 refine⟨some ⟨b,0,none⟩,rows.length,rfl,Zh _,by unfold maxLen;omega,(fun h=>by cases h),hk,fun i hi j hj=>⟨_,rfl,?_⟩⟩
 have hadd:∀j,(⟨b,0,none⟩:Addr).add j=⟨b,j,none⟩:=fun j=>by unfold Addr.add;split<;>simp_all
 rw[hadd,h.cell (i*k+j),<-flatten_get (fun x hx=>(hk x hx).1) i j hi hj]
 simp
theorem al_new {w:World} {n m:Nat} (hn:w.heap.size=n) (hm:n+1=m) (cs:Array Value) (t:TypeId):∃W,w.alloc (.cells cs t)=W/\Below w.heap.size w W/\W.heap.size=m/\Blk n cs t W :=
 ⟨_,rfl,Zr,by rw[World.size_alloc,hn,hm],by rw[<-hn];exact Blk.new w _ _⟩
namespace Eg
abbrev ka:Rc.PRec:=⟨[[111]],0,2,[[[98],[111]]],[],[],[]⟩
abbrev kb:Rc.PRec:=⟨[[98],[111]],0,1,[],[],[],[10,0,0,2]⟩
abbrev kc:Rc.PRec:=⟨[[120],[111]],0,1,[],[],[],[10,0,0,2]⟩
theorem k_canon:Rc.canon [ka,kb]=[ka,kb]:=by kernel_rfl
theorem k_canon2:Rc.canon [kc]=[kc]:=by kernel_rfl
abbrev kz:List PZ:=[(0,[],[ka,kb]),(1,[[111]],[kc])]
theorem k_cuts:cutsP [] [ka,kb]=[[ka]]:=by
 unfold cutsP;rw[k_canon];rw[show Rs.grpF ([ka,kb]:List Rc.PRec).length [ka,kb]=[[ka],[kb]] by kernel_rfl]
 kernel_rfl
theorem k_cuts2:cutsP [[111]] [kc]=[]:=by
 unfold cutsP;rw[k_canon2];rw[show Rs.grpF ([kc]:List Rc.PRec).length [kc]=[[kc]] by kernel_rfl]
 kernel_rfl
theorem k_flaws:flawsP kz=[⟨1,[],[[111]],[],1⟩]:=by
 unfold flawsP;show zf kz (0,[],[ka,kb])++(zf kz (1,[[111]],[kc])++[])=_;unfold zf;rw[k_cuts,k_cuts2];show (ofP kz [] [ka,kb] [ka]++[])++([]++[])=_;rw[show ofP kz [] [ka,kb] [ka]=[⟨1,[],[[111]],[],1⟩] by kernel_rfl]
 rfl
end Eg
def SmR (w:World) (e:Ending) (w':World):Prop :=
 ∃(vh:Value) (ro:Option Addr) (rl rc:Nat) (hs:List (HE w')),e=.returned (.agg #[vh,.slice ro rl rc,.int .i64 2,.int .i64 3])/\GRd 6 vh (hs.map encHo) w'/\(Eg.zs hs).map Eg.pz=Eg.kz/\(∀h∈hs,∀z∈h.zones,z.recs.length<=20)/\(∃h0 h1:HE w',∃z0:ZE w',hs=[h0,h1]/\h0.zones=[z0]/\z0.origin=[]/\plE z0.recs=[Eg.ka,Eg.kb])/\Below w.heap.size w w'
set_option maxHeartbeats 4000000 in
theorem small16_any (w:World):Calls Tryz.prog 14 #[] w (SmR w):=by
 obtain⟨W1,hW1,bW1,sW1,k0⟩:=al_new (w:=w) rfl (m:=w.heap.size+1) rfl #[.slice none 0 0,.slice none 0 0,.int .i64 0,.int .i64 0] 25;obtain⟨W2,hW2,bW2,sW2,k1⟩:=al_new (w:=W1) sW1 (m:=w.heap.size+2) rfl #[.int .u8 10,.int .u8 0,.int .u8 0,.int .u8 2] 5;obtain⟨W3z,hW3z⟩:=Zq (W2.alloc (.cells #[.int .i64 0,.slice none 0 0,.slice none 0 0,.slice none 0 0,.slice none 0 0] 107));have k2z:Blk (w.heap.size+2) #[.int .i64 0,.slice none 0 0,.slice none 0 0,.slice none 0 0,.slice none 0 0] 107 W3z:=by have:=Blk.new W2 #[.int .i64 0,.slice none 0 0,.slice none 0 0,.slice none 0 0,.slice none 0 0] 107;rw[hW3z,sW2] at this;exact this
 obtain⟨W3,hW3⟩:=Zq ((((((W3z.setCell ⟨w.heap.size+2,0,none⟩ (.int .i64 1)).setCell ⟨w.heap.size+2,1,none⟩ (.slice none 0 0)).setCell ⟨w.heap.size+2,2,none⟩ (.slice none 0 0)).setCell ⟨w.heap.size+2,3,none⟩ (.slice none 0 0)).setCell ⟨w.heap.size+2,4,none⟩ (.slice (some ⟨w.heap.size+1,0,none⟩) 4 4)));have bW3:Below W2.heap.size W2 W3:=by rw[<-hW3,<-hW3z];exact ((((((Zr).setCell (p:=⟨w.heap.size+2,0,none⟩) (by simp[sW2]) _).setCell (p:=⟨w.heap.size+2,1,none⟩) (by simp[sW2]) _).setCell (p:=⟨w.heap.size+2,2,none⟩) (by simp[sW2]) _).setCell (p:=⟨w.heap.size+2,3,none⟩) (by simp[sW2]) _).setCell (p:=⟨w.heap.size+2,4,none⟩) (by simp[sW2]) _)
 have sW3:W3.heap.size=w.heap.size+3:=by rw[<-hW3,<-hW3z];simp[World.setCell,sW2]
 have k2:Blk (w.heap.size+2) #[.int .i64 1,.slice none 0 0,.slice none 0 0,.slice none 0 0,.slice (some ⟨w.heap.size+1,0,none⟩) 4 4] 107 W3:=by rw[<-hW3];exact (((((k2z.setAt 0 _).setAt 1 _).setAt 2 _).setAt 3 _).setAt 4 _)
 have z20:W3z.cell? ⟨w.heap.size+2,0,none⟩=some _:=k2z.cell 0;have y20:=k2z.frozen 0;have z21:W3z.cell? ⟨w.heap.size+2,1,none⟩=some _:=k2z.cell 1;have y21:=k2z.frozen 1;have z22:W3z.cell? ⟨w.heap.size+2,2,none⟩=some _:=k2z.cell 2;have y22:=k2z.frozen 2;have z23:W3z.cell? ⟨w.heap.size+2,3,none⟩=some _:=k2z.cell 3;have y23:=k2z.frozen 3;have z24:W3z.cell? ⟨w.heap.size+2,4,none⟩=some _:=k2z.cell 4;have y24:=k2z.frozen 4;obtain⟨W4,hW4,bW4,sW4,k3⟩:=al_new (w:=W3) sW3 (m:=w.heap.size+4) rfl #[S [98],S [111]] 9;obtain⟨W5,hW5,bW5,sW5,k4⟩:=al_new (w:=W4) sW4 (m:=w.heap.size+5) rfl #[S [111]] 9;obtain⟨W6,hW6,bW6,sW6,k5⟩:=al_new (w:=W5) sW5 (m:=w.heap.size+6) rfl #[.slice (some ⟨w.heap.size+3,0,none⟩) 2 2] 38;obtain⟨W7,hW7,bW7,sW7,k6⟩:=al_new (w:=W6) sW6 (m:=w.heap.size+7) rfl #[.slice (some ⟨w.heap.size+4,0,none⟩) 1 1,.int .u32 0,.int .i64 2,.slice (some ⟨w.heap.size+5,0,none⟩) 1 1,.slice none 0 0,.slice none 0 0,.slice none 0 0,.slice (some ⟨w.heap.size+3,0,none⟩) 2 2,.int .u32 0,.int .i64 1,.slice none 0 0,.slice none 0 0,.slice none 0 0,.slice (some ⟨w.heap.size+1,0,none⟩) 4 4] 110;have tW7:Below W7.heap.size W7 W7:=Below.refl _ _;have tW6:Below W6.heap.size W6 W7:=Z5 bW7 tW7;have tW5:Below W5.heap.size W5 W7:=Z5 bW6 tW6;have tW4:Below W4.heap.size W4 W7:=Z5 bW5 tW5;have tW3:Below W3.heap.size W3 W7:=Z5 bW4 tW4;have tW2:Below W2.heap.size W2 W7:=Z5 bW3 tW3;have tW1:Below W1.heap.size W1 W7:=Z5 bW2 tW2;have m0:=k0.below tW1;have m1:=k1.below tW2;have m2:=k2.below tW3;have m3:=k3.below tW4;have m4:=k4.below tW5;have m5:=k5.below tW6;have m6:=k6.below tW7;have x40:W4.cell? ⟨w.heap.size+2,0,none⟩=some _:=(k2.below bW4).cell 0;have x41:W4.cell? ⟨w.heap.size+2,1,none⟩=some _:=(k2.below bW4).cell 1;have x42:W4.cell? ⟨w.heap.size+2,2,none⟩=some _:=(k2.below bW4).cell 2;have x43:W4.cell? ⟨w.heap.size+2,3,none⟩=some _:=(k2.below bW4).cell 3;have x44:W4.cell? ⟨w.heap.size+2,4,none⟩=some _:=(k2.below bW4).cell 4;have x50:W5.cell? ⟨w.heap.size+2,0,none⟩=some _:=(k2.below (Z5 bW4 bW5)).cell 0;have x51:W5.cell? ⟨w.heap.size+2,1,none⟩=some _:=(k2.below (Z5 bW4 bW5)).cell 1;have x52:W5.cell? ⟨w.heap.size+2,2,none⟩=some _:=(k2.below (Z5 bW4 bW5)).cell 2;have x53:W5.cell? ⟨w.heap.size+2,3,none⟩=some _:=(k2.below (Z5 bW4 bW5)).cell 3;have x54:W5.cell? ⟨w.heap.size+2,4,none⟩=some _:=(k2.below (Z5 bW4 bW5)).cell 4;have x60:W6.cell? ⟨w.heap.size+2,0,none⟩=some _:=(k2.below (Z5 (Z5 bW4 bW5) bW6)).cell 0;have x61:W6.cell? ⟨w.heap.size+2,1,none⟩=some _:=(k2.below (Z5 (Z5 bW4 bW5) bW6)).cell 1;have x62:W6.cell? ⟨w.heap.size+2,2,none⟩=some _:=(k2.below (Z5 (Z5 bW4 bW5) bW6)).cell 2;have x63:W6.cell? ⟨w.heap.size+2,3,none⟩=some _:=(k2.below (Z5 (Z5 bW4 bW5) bW6)).cell 3;have x64:W6.cell? ⟨w.heap.size+2,4,none⟩=some _:=(k2.below (Z5 (Z5 bW4 bW5) bW6)).cell 4;have hnil:Rd (.slice none 0 0) [] W7:=Rd.nil _;have hsl:Sl (.slice none 0 0) [] W7:=Sl.nil _;have hnm0:NmsRd (.slice none 0 0) [] W7:=⟨[],rfl,Sl.nil _,fun i h=>by simp at h⟩
 have hraw0:BtRd (.slice none 0 0) [] W7:=Sl.nil _;have hraw:BtRd (.slice (some ⟨w.heap.size+1,0,none⟩) 4 4) [10,0,0,2] W7:=sl_blk (cs:=[.int .u8 10,.int .u8 0,.int .u8 0,.int .u8 2]) m1 (by simp)
 have hns:NmsRd (.slice (some ⟨w.heap.size+5,0,none⟩) 1 1) [[[98],[111]]] W7:=by
  refine⟨[.slice (some ⟨w.heap.size+3,0,none⟩) 2 2],rfl,sl_blk (cs:=[.slice (some ⟨w.heap.size+3,0,none⟩) 2 2]) m5 (by simp),fun i h h2=>?_⟩
  obtain rfl:i=0:=by have h3:i<1:=h2;omega
  exact rd_blk [[98],[111]] m3 (by decide)
 have ho:=rd_blk [[111]] m4 (by decide)
 have hn:=rd_blk [[98],[111]] m3 (by decide)
 have e0:RecRd [.slice (some ⟨w.heap.size+4,0,none⟩) 1 1,.int .u32 0,.int .i64 2,.slice (some ⟨w.heap.size+5,0,none⟩) 1 1,.slice none 0 0,.slice none 0 0,.slice none 0 0] Eg.ka W7/\RB Eg.ka:=⟨⟨_,_,rfl,ho,_,_,_,_,rfl,hns,hsl,hnil,hraw0⟩,⟨nb_ok (by decide),⟨by decide,fun n hn=>by simp at hn;subst hn;exact nb_ok (by decide)⟩,⟨by decide,by simp⟩,by decide,by decide⟩⟩
 have e1:RecRd [.slice (some ⟨w.heap.size+3,0,none⟩) 2 2,.int .u32 0,.int .i64 1,.slice none 0 0,.slice none 0 0,.slice none 0 0,.slice (some ⟨w.heap.size+1,0,none⟩) 4 4] Eg.kb W7/\RB Eg.kb:=⟨⟨_,_,rfl,hn,_,_,_,_,rfl,hnm0,hsl,hnil,hraw⟩,⟨nb_ok (by decide),⟨by decide,by simp⟩,⟨by decide,by simp⟩,by decide,by decide⟩⟩
 have HEE:Hid (∀W,Blk (w.heap.size+1) #[.int .u8 10,.int .u8 0,.int .u8 0,.int .u8 2] 5 W->Blk (w.heap.size+3) #[S [98],S [111]] 9 W->Blk (w.heap.size+4) #[S [111]] 9 W->Blk (w.heap.size+5) #[.slice (some ⟨w.heap.size+3,0,none⟩) 2 2] 38 W->RecRd [.slice (some ⟨w.heap.size+4,0,none⟩) 1 1,.int .u32 0,.int .i64 2,.slice (some ⟨w.heap.size+5,0,none⟩) 1 1,.slice none 0 0,.slice none 0 0,.slice none 0 0] Eg.ka W/\RecRd [.slice (some ⟨w.heap.size+3,0,none⟩) 2 2,.int .u32 0,.int .i64 1,.slice none 0 0,.slice none 0 0,.slice none 0 0,.slice (some ⟨w.heap.size+1,0,none⟩) 4 4] Eg.kb W):=fun W n1 n3 n4 n5=>by
  have hnm0:NmsRd (.slice none 0 0) [] W:=⟨[],rfl,Sl.nil _,fun i h=>by simp at h⟩
  have hraw:BtRd (.slice (some ⟨w.heap.size+1,0,none⟩) 4 4) [10,0,0,2] W:=sl_blk (cs:=[.int .u8 10,.int .u8 0,.int .u8 0,.int .u8 2]) n1 (by simp)
  have hns:NmsRd (.slice (some ⟨w.heap.size+5,0,none⟩) 1 1) [[[98],[111]]] W:=by
   refine⟨[.slice (some ⟨w.heap.size+3,0,none⟩) 2 2],rfl,sl_blk (cs:=[.slice (some ⟨w.heap.size+3,0,none⟩) 2 2]) n5 (by simp),fun i h h2=>?_⟩
   obtain rfl:i=0:=by have h3:i<1:=h2;omega
   exact rd_blk [[98],[111]] n3 (by decide)
  exact⟨⟨_,_,rfl,rd_blk [[111]] n4 (by decide),_,_,_,_,rfl,hns,Sl.nil _,Rd.nil _,Sl.nil _⟩,⟨_,_,rfl,rd_blk [[98],[111]] n3 (by decide),_,_,_,_,rfl,hnm0,Sl.nil _,Rd.nil _,hraw⟩⟩
 obtain⟨l,hl⟩:∃l:List (El W7),[⟨(_,_),e0⟩,⟨(_,_),e1⟩]=l:=⟨_,rfl⟩;have hl2:l.length=2:=by rw[<-hl];rfl
 have hpl:plE l=[Eg.ka,Eg.kb]:=by rw[<-hl];rfl
 have hrecs:RecsRd (.slice (some ⟨w.heap.size+6,0,none⟩) 2 2) (l.map (·.1)) W7:=by
  have:=recs_blk l (by rw[<-hl];exact m6) (by rw[hl2];decide)
  rw[hl2] at this;exact this
 have HNEW:=Hd (zNew9_any none 0 0 (.slice (some ⟨w.heap.size+6,0,none⟩) 2 2) l hrecs (by omega))
 have HPL:=Hd hpl;have HLL:Hid (∀W,RecRd [.slice (some ⟨w.heap.size+4,0,none⟩) 1 1,.int .u32 0,.int .i64 2,.slice (some ⟨w.heap.size+5,0,none⟩) 1 1,.slice none 0 0,.slice none 0 0,.slice none 0 0] Eg.ka W->RecRd [.slice (some ⟨w.heap.size+3,0,none⟩) 2 2,.int .u32 0,.int .i64 1,.slice none 0 0,.slice none 0 0,.slice none 0 0,.slice (some ⟨w.heap.size+1,0,none⟩) 4 4] Eg.kb W->∀y∈l,RecRd y.1.1 y.1.2 W):=fun W r0 r1 y hy=>by
  rw[<-hl] at hy;simp only[List.mem_cons,List.not_mem_nil,or_false] at hy;rcases hy with rfl|rfl
  ·exact r0
  ·exact r1
 have HM3:=Hd m3;have HM4:=Hd m4;have HM5:=Hd m5;have HN:=Hd hn;have HBW:=Hd (Z5 bW1 tW1);have HSW:Hid (W7.heap.size=w.heap.size+7):=sW7;have HM0:=Hd m0;have HM1:=Hd m1;have HM2:=Hd m2;clear m0 m1 m2 m3 m4 m5 m6 k0 k1 k3 k4 k5 k6 hnil hsl hnm0 hraw0 hraw hns ho hn e0 e1 hl hrecs hpl bW1 bW2 bW3 bW4 bW5 bW6 bW7 tW1 tW2 tW3 tW4 tW5 tW6 tW7;refine (zF (n:=0)).1 ?_;refine callsIn_of_wp Tryz.func14 rfl trivial ?_ rfl;simp only[Tryz.ntmps14,Zo,Zg,Nat.reduceSub,Zi,Zj,Zk,Zl,Zm,Zp];gi_wp2_with fail
 refine (callsIn_wide.2 HNEW.out).mono ?_;rintro e w1 ⟨v1,l1,rfl,hr1,hp1,hn1,b1,fr1,el1⟩;obtain⟨o1,c1,rfl⟩:∃o cap,v1=.slice o l1.length cap:=by obtain⟨_,o,cap,h,_⟩:=hr1;exact⟨o,cap,by rw[h,Zf]⟩
 have hp:plE l1=[Eg.ka,Eg.kb]:=by rw[hp1,HPL.out,Eg.k_canon]
 have hl2':l1.length=2:=by rw[<-zH,hp];rfl
 rw[hl2'] at hr1 fr1 ⊢;obtain⟨Wy,hWy⟩:=Zq (w1.alloc (.cells #[.slice none 0 0,.slice o1 2 c1] 54));have ky:Blk w1.heap.size #[.slice none 0 0,.slice o1 2 c1] 54 Wy:=by rw[<-hWy];exact Blk.new w1 _ _
 have bwy:Below w1.heap.size w1 Wy:=by rw[<-hWy];exact Zr
 have sWy:Wy.heap.size=w1.heap.size+1:=by rw[<-hWy,World.size_alloc]
 have hb7:Below W7.heap.size W7 Wy:=Z5 b1 bwy;obtain⟨V1,hV1,bV1,sV1,j1⟩:=al_new (w:=Wy) sWy (m:=w1.heap.size+2) rfl #[S [111]] 9;obtain⟨V2,hV2,bV2,sV2,j2⟩:=al_new (w:=V1) sV1 (m:=w1.heap.size+3) rfl #[S [120],S [111]] 9;obtain⟨V3,hV3,bV3,sV3,j3⟩:=al_new (w:=V2) sV2 (m:=w1.heap.size+4) rfl #[.slice (some ⟨w1.heap.size+2,0,none⟩) 2 2,.int .u32 0,.int .i64 1,.slice none 0 0,.slice none 0 0,.slice none 0 0,.slice (some ⟨w.heap.size+1,0,none⟩) 4 4] 110;have b72:Below W7.heap.size W7 V2:=Z5 (Z5 hb7 bV1) bV2;have b73:Below W7.heap.size W7 V3:=Z5 b72 bV3;have u20:V2.cell? ⟨w.heap.size+2,0,none⟩=some _:=(HM2.out.below b72).cell 0;have u21:V2.cell? ⟨w.heap.size+2,1,none⟩=some _:=(HM2.out.below b72).cell 1;have u22:V2.cell? ⟨w.heap.size+2,2,none⟩=some _:=(HM2.out.below b72).cell 2;have u23:V2.cell? ⟨w.heap.size+2,3,none⟩=some _:=(HM2.out.below b72).cell 3;have u24:V2.cell? ⟨w.heap.size+2,4,none⟩=some _:=(HM2.out.below b72).cell 4;have ho2:=rd_blk [[111]] (j1.below (Z5 bV2 bV3)) (by decide)
 have hn2:=rd_blk [[120],[111]] (j2.below bV3) (by decide)
 have hraw2:BtRd (.slice (some ⟨w.heap.size+1,0,none⟩) 4 4) [10,0,0,2] V3:=sl_blk (cs:=[.int .u8 10,.int .u8 0,.int .u8 0,.int .u8 2]) (HM1.out.below b73) (by simp)
 have hnm2:NmsRd (.slice none 0 0) [] V3:=⟨[],rfl,Sl.nil _,fun i h=>by simp at h⟩
 have e2:RecRd [.slice (some ⟨w1.heap.size+2,0,none⟩) 2 2,.int .u32 0,.int .i64 1,.slice none 0 0,.slice none 0 0,.slice none 0 0,.slice (some ⟨w.heap.size+1,0,none⟩) 4 4] Eg.kc V3/\RB Eg.kc:=⟨⟨_,_,rfl,hn2,_,_,_,_,rfl,hnm2,Sl.nil _,Rd.nil _,hraw2⟩,⟨nb_ok (by decide),⟨by decide,by simp⟩,⟨by decide,by simp⟩,by decide,by decide⟩⟩
 obtain⟨q,hq⟩:∃l:List (El V3),[⟨(_,_),e2⟩]=l:=⟨_,rfl⟩;have hq1:q.length=1:=by rw[<-hq];rfl
 have hqp:plE q=[Eg.kc]:=by rw[<-hq];rfl
 have hqr:RecsRd (.slice (some ⟨w1.heap.size+3,0,none⟩) 1 1) (q.map (·.1)) V3:=by
  have:=recs_blk q (by rw[<-hq];exact j3) (by rw[hq1];decide)
  rw[hq1] at this;exact this
 have HNEW2:=Hd (zNew9_any (some ⟨w1.heap.size+1,0,none⟩) 1 1 (.slice (some ⟨w1.heap.size+3,0,none⟩) 1 1) q hqr (by omega))
 have HQP:=Hd hqp;have HO2:=Hd ho2;have HF1:=Hd fr1;have HE1:=Hd el1;have J1:=Hd j1;have J2:=Hd j2;have HVV:Hid (Below V1.heap.size V1 V3):=Z5 bV2 bV3;have HVW:Hid (Below V2.heap.size V2 V3):=bV3;have HQQ:Hid (∀W,RecRd [.slice (some ⟨w1.heap.size+2,0,none⟩) 2 2,.int .u32 0,.int .i64 1,.slice none 0 0,.slice none 0 0,.slice none 0 0,.slice (some ⟨w.heap.size+1,0,none⟩) 4 4] Eg.kc W->∀y∈q,RecRd y.1.1 y.1.2 W):=fun W r0 y hy=>by
  rw[<-hq] at hy;simp only[List.mem_cons,List.not_mem_nil,or_false] at hy;subst hy;exact r0
 have HY:=Hd ky;have HRY:=Hd hr1;have HPY:=Hd hp;have HLY:=Hd hl2';have HB1:=Hd b1;have HB7:=Hd hb7;have HBV:=Hd (Z5 bV1 (Z5 bV2 bV3));have HSV:Hid (V3.heap.size=w1.heap.size+4):=sV3;have HBY:=Hd bwy;clear fr1 el1 hr1 hp1 hn1 b1 hp hl2' ky bwy hb7 j1 j2 j3 b72 b73 ho2 hn2 hraw2 hnm2 e2 hq hq1 hqp hqr HNEW bV1 bV2 bV3;gi_wp2_with fail
 refine (callsIn_wide.2 HNEW2.out).mono ?_;rintro e w2 ⟨v2,l2,rfl,hr2,hp2,hn2,b2,fr2,el2⟩;obtain⟨o2,c2,rfl⟩:∃o cap,v2=.slice o l2.length cap:=by obtain⟨_,o,cap,h,_⟩:=hr2;exact⟨o,cap,by rw[h,Zf]⟩
 have hpq:plE l2=[Eg.kc]:=by rw[hp2,HQP.out,Eg.k_canon2]
 have hl3:l2.length=1:=by rw[<-zH,hpq];rfl
 rw[hl3] at hr2 fr2 ⊢;obtain⟨Wt,hWt⟩:=Zq (w2.alloc (.cells #[.slice (some ⟨w1.heap.size+1,0,none⟩) 1 1,.slice o2 1 c2] 54));have kt:Blk w2.heap.size #[.slice (some ⟨w1.heap.size+1,0,none⟩) 1 1,.slice o2 1 c2] 54 Wt:=by rw[<-hWt];exact Blk.new w2 _ _
 have bwt:Below w2.heap.size w2 Wt:=by rw[<-hWt];exact Zr
 have sWt:Wt.heap.size=w2.heap.size+1:=by rw[<-hWt,World.size_alloc]
 obtain⟨V4,hV4,bV4,sV4,j4⟩:=al_new (w:=Wt) sWt (m:=w2.heap.size+2) rfl #[S [97]] 9;obtain⟨V5,hV5,bV5,sV5,j5⟩:=al_new (w:=V4) sV4 (m:=w2.heap.size+3) rfl #[.slice none 0 0,.slice o1 2 c1] 54;obtain⟨V6,hV6,bV6,sV6,j6⟩:=al_new (w:=V5) sV5 (m:=w2.heap.size+4) rfl #[.slice (some ⟨w1.heap.size+1,0,none⟩) 1 1,.slice o2 1 c2] 54;obtain⟨V7,hV7,bV7,sV7,j7⟩:=al_new (w:=V6) sV6 (m:=w2.heap.size+5) rfl #[.slice (some ⟨w2.heap.size+1,0,none⟩) 1 1,.int .u8 10,.int .u8 0,.int .u8 0,.int .u8 1,.slice (some ⟨w2.heap.size+2,0,none⟩) 1 1,.slice (some ⟨w.heap.size+3,0,none⟩) 2 2,.int .u8 10,.int .u8 0,.int .u8 0,.int .u8 2,.slice (some ⟨w2.heap.size+3,0,none⟩) 1 1] 42;obtain⟨V8,hV8,bV8,sV8,j8⟩:=al_new (w:=V7) sV7 (m:=w2.heap.size+6) rfl #[.int .i64 0] 3;have bt2:Below Wy.heap.size Wy Wt:=Z5 (Z5 HBV.out b2) bwt;have b75:Below W7.heap.size W7 V8:=Z5 (Z5 (Z5 (Z5 HB7.out (Z5 bt2 bV4)) bV5) bV6) (Z5 bV7 bV8);have u40:V4.cell? ⟨w1.heap.size,0,none⟩=some _:=(HY.out.below (Z5 bt2 bV4)).cell 0;have u41:V4.cell? ⟨w1.heap.size,1,none⟩=some _:=(HY.out.below (Z5 bt2 bV4)).cell 1;have u50:V6.cell? ⟨w2.heap.size,0,none⟩=some _:=(kt.below (Z5 bV4 (Z5 bV5 bV6))).cell 0;have u51:V6.cell? ⟨w2.heap.size,1,none⟩=some _:=(kt.below (Z5 bV4 (Z5 bV5 bV6))).cell 1;have u60:V5.cell? ⟨w2.heap.size,0,none⟩=some _:=(kt.below (Z5 bV4 bV5)).cell 0;have u61:V5.cell? ⟨w2.heap.size,1,none⟩=some _:=(kt.below (Z5 bV4 bV5)).cell 1;have hB8:=HM0.out.below b75;have s80:V8.cell? ⟨w.heap.size,0,none⟩=some _:=hB8.cell 0;have s81:V8.cell? ⟨w.heap.size,1,none⟩=some _:=hB8.cell 1;have s82:V8.cell? ⟨w.heap.size,2,none⟩=some _:=hB8.cell 2;have s83:V8.cell? ⟨w.heap.size,3,none⟩=some _:=hB8.cell 3;have g80:=hB8.frozen 0;have g81:=hB8.frozen 1;have g82:=hB8.frozen 2;have g83:=hB8.frozen 3;have HF2:=Hd fr2;have HE2:=Hd el2;have HW8:Hid (Below Wt.heap.size Wt V8):=Z5 bV4 (Z5 bV5 (Z5 bV6 (Z5 bV7 bV8)));have HT:=Hd kt;have HR2:=Hd hr2;have HP2:=Hd hpq;have HB2:=Hd b2;have HBT:=Hd bwt;have J4:=Hd j4;have J5:=Hd j5;have J6:=Hd j6;have J7:=Hd j7;have X4:=Hd bV4;have X5:=Hd bV5;have X6:=Hd bV6;have X7:=Hd bV7;have X8:=Hd bV8;have HB8:=Hd hB8;have HL3:=Hd hl3;clear fr2 el2 kt hr2 hpq b2 bwt j4 j5 j6 j7 j8 bV4 bV5 bV6 bV7 bV8 hB8 hl3 hp2 hn2 bt2 b75 HNEW2;gi_wp2_with fail
 obtain⟨V9,hV9⟩:=Zq (((((V8.setCell ⟨w.heap.size,0,none⟩ (.slice (some ⟨w2.heap.size+4,0,none⟩) 2 2)).setCell ⟨w.heap.size,1,none⟩ (.slice (some ⟨w2.heap.size+5,0,none⟩) 1 1)).setCell ⟨w.heap.size,2,none⟩ (.int .i64 2)).setCell ⟨w.heap.size,3,none⟩ (.int .i64 3)));have hB9:Blk w.heap.size #[.slice (some ⟨w2.heap.size+4,0,none⟩) 2 2,.slice (some ⟨w2.heap.size+5,0,none⟩) 1 1,.int .i64 2,.int .i64 3] 25 V9:=by rw[<-hV9];exact (((HB8.out.setAt 0 _).setAt 1 _).setAt 2 _).setAt 3 _
 have hoth:∀k,k≠w.heap.size->V9.heap[k]? = V8.heap[k]?:=fun k hk=>by
  rw[<-hV9,Below.heap_setCell _ _ _ _ hk,Below.heap_setCell _ _ _ _ hk,Below.heap_setCell _ _ _ _ hk,Below.heap_setCell _ _ _ _ hk]
 have h28:Below w2.heap.size w2 V8:=Z5 HBT.out HW8.out;have h38:Below V3.heap.size V3 V8:=Z5 HB2.out h28;have h18:Below w1.heap.size w1 V8:=Z5 HBY.out (Z5 HBV.out h38);have h78:Below W7.heap.size W7 V8:=Z5 HB7.out (Z5 HBV.out h38);have hw8:Below w.heap.size w V8:=Z5 HBW.out h78;have hw9:Below w.heap.size w V9:=by rw[<-hV9];exact ((((hw8.setCell (Zh _) _).setCell (Zh _) _).setCell (Zh _) _).setCell (Zh _) _)
 have hs7:=HSW.out;have hs3:=HSV.out;have hz1:W7.heap.size<=w1.heap.size:=HB1.out.size;have hz2:V3.heap.size<=w2.heap.size:=HB2.out.size;have up9:∀(p:Addr),p.block≠w.heap.size->∀u,V8.cell? p=some u->V9.cell? p=some u:=fun p hp u hu=>by rw[World.cell?_of_block (hoth _ hp)];exact hu
 have q1:Blk (w.heap.size+1) #[.int .u8 10,.int .u8 0,.int .u8 0,.int .u8 2] 5 V9:=(hoth _ (by omega)).trans (HM1.out.below h78)
 have q3:Blk (w.heap.size+3) #[S [98],S [111]] 9 V9:=(hoth _ (by omega)).trans (HM3.out.below h78)
 have q4:Blk (w.heap.size+4) #[S [111]] 9 V9:=(hoth _ (by omega)).trans (HM4.out.below h78)
 have q5:Blk (w.heap.size+5) #[.slice (some ⟨w.heap.size+3,0,none⟩) 2 2] 38 V9:=(hoth _ (by omega)).trans (HM5.out.below h78)
 have p1:Blk (w1.heap.size+1) #[S [111]] 9 V9:=(hoth _ (by omega)).trans (J1.out.below (Z5 HVV.out h38))
 have p2:Blk (w1.heap.size+2) #[S [120],S [111]] 9 V9:=(hoth _ (by omega)).trans (J2.out.below (Z5 HVW.out h38))
 have p4:Blk (w2.heap.size+1) #[S [97]] 9 V9:=(hoth _ (by omega)).trans (J4.out.below (Z5 X5.out (Z5 X6.out (Z5 X7.out X8.out))))
 have p5:Blk (w2.heap.size+2) #[.slice none 0 0,.slice o1 2 c1] 54 V9:=(hoth _ (by omega)).trans (J5.out.below (Z5 X6.out (Z5 X7.out X8.out)))
 have p6:Blk (w2.heap.size+3) #[.slice (some ⟨w1.heap.size+1,0,none⟩) 1 1,.slice o2 1 c2] 54 V9:=(hoth _ (by omega)).trans (J6.out.below (Z5 X7.out X8.out))
 have p7:Blk (w2.heap.size+4) #[.slice (some ⟨w2.heap.size+1,0,none⟩) 1 1,.int .u8 10,.int .u8 0,.int .u8 0,.int .u8 1,.slice (some ⟨w2.heap.size+2,0,none⟩) 1 1,.slice (some ⟨w.heap.size+3,0,none⟩) 2 2,.int .u8 10,.int .u8 0,.int .u8 0,.int .u8 2,.slice (some ⟨w2.heap.size+3,0,none⟩) 1 1] 42 V9:=(hoth _ (by omega)).trans (J7.out.below X8.out)
 obtain⟨r0,r1⟩:=HEE.out V9 q1 q3 q4 q5;have r2:RecRd [.slice (some ⟨w1.heap.size+2,0,none⟩) 2 2,.int .u32 0,.int .i64 1,.slice none 0 0,.slice none 0 0,.slice none 0 0,.slice (some ⟨w.heap.size+1,0,none⟩) 4 4] Eg.kc V9:=⟨_,_,rfl,rd_blk [[120],[111]] p2 (by decide),_,_,_,_,rfl,⟨[],rfl,Sl.nil _,fun i h=>by simp at h⟩,Sl.nil _,Rd.nil _,sl_blk (cs:=[.int .u8 10,.int .u8 0,.int .u8 0,.int .u8 2]) q1 (by simp)⟩
 have el1':∀x∈l1,RecRd x.1.1 x.1.2 V9:=fun x hx=>HE1.out x hx V9 (HLL.out V9 r0 r1)
 have el2':∀x∈l2,RecRd x.1.1 x.1.2 V9:=fun x hx=>HE2.out x hx V9 (HQQ.out V9 r2)
 have rr1:=recs_lie (W:=V9) HRY.out HF1.out (fun p hp u hu=>up9 p (by omega) u ((h18.cell (zG hu)).trans hu)) el1'
 have rr2:=recs_lie (W:=V9) HR2.out HF2.out (fun p hp u hu=>up9 p (by omega) u ((h28.cell (zG hu)).trans hu)) el2'
 obtain⟨L1,d1,d2,d3⟩:=down_list (w:=V9) l1 el1';obtain⟨L2,f1,f2,f3⟩:=down_list (w:=V9) l2 el2';have hl1:L1.length=2:=by rw[d3];exact HLY.out
 have hl2:L2.length=1:=by rw[f3];exact HL3.out
 obtain⟨zt,hzt⟩:∃z:ZE V9,(⟨.slice none 0 0,.slice o1 2 c1,[],L1,Rd.nil _,by rw[d1];exact rr1,nb_ok (by decide),by omega⟩:ZE V9)=z:=⟨_,rfl⟩
 obtain⟨zu,hzu⟩:∃z:ZE V9,(⟨.slice (some ⟨w1.heap.size+1,0,none⟩) 1 1,.slice o2 1 c2,[[111]],L2,rd_blk [[111]] p1 (by decide),by rw[f1];exact rr2,nb_ok (by decide),by omega⟩:ZE V9)=z:=⟨_,rfl⟩
 have et:encZ zt=[.slice none 0 0,.slice o1 2 c1]:=by rw[<-hzt];rfl
 have eu:encZ zu=[.slice (some ⟨w1.heap.size+1,0,none⟩) 1 1,.slice o2 1 c2]:=by rw[<-hzu];rfl
 have gt:GRd 2 (.slice (some ⟨w2.heap.size+2,0,none⟩) 1 1) ([zt].map encZ) V9:=by
  have:=grd_blk (k:=2) [encZ zt] (by rw[et];exact p5) (by rw[et];intro c hc;rw[List.mem_singleton] at hc;subst hc;exact⟨rfl,by simp[Value.oneCell']⟩) (by simp)
  exact this
 have gu:GRd 2 (.slice (some ⟨w2.heap.size+3,0,none⟩) 1 1) ([zu].map encZ) V9:=by
  have:=grd_blk (k:=2) [encZ zu] (by rw[eu];exact p6) (by rw[eu];intro c hc;rw[List.mem_singleton] at hc;subst hc;exact⟨rfl,by simp[Value.oneCell']⟩) (by simp)
  exact this
 obtain⟨ha,hha⟩:∃h:HE V9,(⟨.slice (some ⟨w2.heap.size+1,0,none⟩) 1 1,10,0,0,1,.slice (some ⟨w2.heap.size+2,0,none⟩) 1 1,[[97]],[zt],rd_blk [[97]] p4 (by decide),gt,by simp⟩:HE V9)=h:=⟨_,rfl⟩
 obtain⟨hb,hhb⟩:∃h:HE V9,(⟨.slice (some ⟨w.heap.size+3,0,none⟩) 2 2,10,0,0,2,.slice (some ⟨w2.heap.size+3,0,none⟩) 1 1,[[98],[111]],[zu],rd_blk [[98],[111]] q3 (by decide),gu,by simp⟩:HE V9)=h:=⟨_,rfl⟩
 have gh:GRd 6 (.slice (some ⟨w2.heap.size+4,0,none⟩) 2 2) ([ha,hb].map encHo) V9:=by
  have:=grd_blk (k:=6) [encHo ha,encHo hb] (by rw[<-hha,<-hhb];exact p7) (by
   rw[<-hha,<-hhb];intro c hc;simp only[List.mem_cons,List.not_mem_nil,or_false] at hc;rcases hc with rfl|rfl<;>exact⟨rfl,by simp[encHo,Value.oneCell']⟩) (by simp)
  exact this
 have hpz:(Eg.zs [ha,hb]).map Eg.pz=Eg.kz:=by
  rw[<-hha,<-hhb];show [((0:Nat),zt.origin,plE zt.recs),(1,zu.origin,plE zu.recs)]=_;rw[<-hzt,<-hzu];show [((0:Nat),([]:List (List UInt8)),plE L1),(1,[[111]],plE L2)]=_;rw[d2,f2,HPY.out,HP2.out]
 have hrl:∀h∈[ha,hb],∀z∈h.zones,z.recs.length<=20:=by
  intro h hh z hz;simp only[List.mem_cons,List.not_mem_nil,or_false] at hh;rcases hh with rfl|rfl
  ·rw[<-hha] at hz
   have hz':z∈[zt]:=hz;rw[List.mem_singleton] at hz';subst hz';rw[<-hzt];show L1.length<=20;omega
  ·rw[<-hhb] at hz
   have hz':z∈[zu]:=hz;rw[List.mem_singleton] at hz';subst hz';rw[<-hzu];show L2.length<=20;omega
 have hzz:∃h0 h1:HE V9,∃z0:ZE V9,[ha,hb]=[h0,h1]/\h0.zones=[z0]/\z0.origin=[]/\plE z0.recs=[Eg.ka,Eg.kb]:=⟨ha,hb,zt,rfl,by rw[<-hha],by rw[<-hzt],by rw[<-hzt];show plE L1=_;rw[d2,HPY.out]⟩
 have e0:=hB9.cell 0;have e1:=hB9.cell 1;have e2:=hB9.cell 2;have e3:=hB9.cell 3;rw[hV9];have HEND:Hid (SmR w (.returned (.agg #[.slice (some ⟨w2.heap.size+4,0,none⟩) 2 2,.slice (some ⟨w2.heap.size+5,0,none⟩) 1 1,.int .i64 2,.int .i64 3])) V9):=⟨_,_,_,_,[ha,hb],rfl,gh,hpz,hrl,hzz,hw9⟩;simp at e0 e1 e2 e3;refine bodyPost_ret (v:=.agg #[.slice (some ⟨w2.heap.size+4,0,none⟩) 2 2,.slice (some ⟨w2.heap.size+5,0,none⟩) 1 1,.int .i64 2,.int .i64 3]) (by simp[results,Tryz.results14,go_sem,e0,e1,e2,e3]) rfl ?_
 exact HEND.out
end Go.Proofs.YtgmbefolgppmdaaGreat
