/- What the reference asks of data and records: that it answers. -/
import Derived.Test.YtgmbefolgppmdaaGreatLGdB
import Derived.Test.YtgmbefolgppmdaaGreatLAli
namespace Go.Proofs.YtgmbefolgppmdaaGreat
open Go.RowKit Go.Shelf Go.Sort
set_option maxRecDepth 100000
def Nums3 (t:Int) (w:World) (e:Ending) (w':World):Prop:=(∃a b c:Int,e=.returned (.tuple #[.int .i64 a,.int .i64 b,.int .i64 c])/\(t=15->b=1)/\(t=2->a=1))/\w=w'
set_option maxHeartbeats 1000000 in
theorem counts_any (t:Int) (w:World):Calls Tryz.prog 121 #[.int .i64 t] w (Nums3 t w):=by
 by_cases h1:t=1
 ·subst h1
  go_enter Tryz.func121,Tryz.ntmps121
  go_wp2
  refine bodyPost_ret (results_tmp3 rfl _ _ _) rfl ?_;exact⟨⟨_,_,_,rfl,fun h=>by first|rfl|omega,fun h=>by first|rfl|omega⟩,rfl⟩
 have n1:(t == 1)=false:=by simpa using h1
 by_cases h28:t=28
 ·subst h28
  go_enter Tryz.func121,Tryz.ntmps121
  go_wp2
  refine bodyPost_ret (results_tmp3 rfl _ _ _) rfl ?_;exact⟨⟨_,_,_,rfl,fun h=>by first|rfl|omega,fun h=>by first|rfl|omega⟩,rfl⟩
 have n28:(t == 28)=false:=by simpa using h28
 by_cases h2:t=2
 ·subst h2
  go_enter Tryz.func121,Tryz.ntmps121
  go_wp2
  refine bodyPost_ret (results_tmp3 rfl _ _ _) rfl ?_;exact⟨⟨_,_,_,rfl,fun h=>by first|rfl|omega,fun h=>by first|rfl|omega⟩,rfl⟩
 have n2:(t == 2)=false:=by simpa using h2
 by_cases h5:t=5
 ·subst h5
  go_enter Tryz.func121,Tryz.ntmps121
  go_wp2
  refine bodyPost_ret (results_tmp3 rfl _ _ _) rfl ?_;exact⟨⟨_,_,_,rfl,fun h=>by first|rfl|omega,fun h=>by first|rfl|omega⟩,rfl⟩
 have n5:(t == 5)=false:=by simpa using h5
 by_cases h12:t=12
 ·subst h12
  go_enter Tryz.func121,Tryz.ntmps121
  go_wp2
  refine bodyPost_ret (results_tmp3 rfl _ _ _) rfl ?_;exact⟨⟨_,_,_,rfl,fun h=>by first|rfl|omega,fun h=>by first|rfl|omega⟩,rfl⟩
 have n12:(t == 12)=false:=by simpa using h12
 by_cases h39:t=39
 ·subst h39
  go_enter Tryz.func121,Tryz.ntmps121
  go_wp2
  refine bodyPost_ret (results_tmp3 rfl _ _ _) rfl ?_;exact⟨⟨_,_,_,rfl,fun h=>by first|rfl|omega,fun h=>by first|rfl|omega⟩,rfl⟩
 have n39:(t == 39)=false:=by simpa using h39
 by_cases h15:t=15
 ·subst h15
  go_enter Tryz.func121,Tryz.ntmps121
  go_wp2
  refine bodyPost_ret (results_tmp3 rfl _ _ _) rfl ?_;exact⟨⟨_,_,_,rfl,fun h=>by first|rfl|omega,fun h=>by first|rfl|omega⟩,rfl⟩
 have n15:(t == 15)=false:=by simpa using h15
 by_cases h6:t=6
 ·subst h6
  go_enter Tryz.func121,Tryz.ntmps121
  go_wp2
  refine bodyPost_ret (results_tmp3 rfl _ _ _) rfl ?_;exact⟨⟨_,_,_,rfl,fun h=>by first|rfl|omega,fun h=>by first|rfl|omega⟩,rfl⟩
 have n6:(t == 6)=false:=by simpa using h6
 by_cases h16:t=16
 ·subst h16
  go_enter Tryz.func121,Tryz.ntmps121
  go_wp2
  refine bodyPost_ret (results_tmp3 rfl _ _ _) rfl ?_;exact⟨⟨_,_,_,rfl,fun h=>by first|rfl|omega,fun h=>by first|rfl|omega⟩,rfl⟩
 have n16:(t == 16)=false:=by simpa using h16
 go_enter Tryz.func121,Tryz.ntmps121
 go_wp2
 refine bodyPost_ret (results_tmp3 rfl _ _ _) rfl ?_;exact⟨⟨_,_,_,rfl,fun h=>by first|rfl|omega,fun h=>by first|rfl|omega⟩,rfl⟩
def Ints2 (Q:Prop) (w:World) (e:Ending) (w':World):Prop:=∃z,e=.returned (.int .i64 z)/\(z=0->Q)/\Below w.heap.size w w'
def Ints (w:World) (e:Ending) (w':World):Prop:=∃z,e=.returned (.int .i64 z)/\Below w.heap.size w w'
set_option maxHeartbeats 4000000 in
theorem checkData3_any (vs:List Value) (r:Rc.PRec) (w0:World) (h:DatRd vs r w0) (hf:DF r) :
  Calls Tryz.prog 100 #[.agg vs.toArray] w0 (Ints2 (r.type=2->r.names.length=1) w0):=by
 obtain⟨vn,vm,vt,vr,rfl,⟨us,hus,h1,h1'⟩,h2,h3,h4⟩:=h;obtain⟨on,cn,rfl,c1,c1'⟩:=h1.form;obtain⟨om,cm,rfl,c2,c2'⟩:=h2.form;obtain⟨ot,ct,rfl,c3,c3'⟩:=h3.form;obtain⟨or,cr,rfl,c4,c4'⟩:=Sl.form h4;have H1:=Hd h1;have H1':=Hd h1';have H2:=Hd h2;have H3:=Hd h3.cells;have HN:=Hd (fun i (h:i<r.names.length)=>NB.few (hf.name r.names[i] (List.getElem_mem h)))
 have e2:(numC r.nums).length=r.nums.length:=by simp[numC]
 have e4:(r.raw.map fun b:UInt8=>Value.int .u8 (b.toNat:Int)).length=r.raw.length:=by simp
 rw[e2] at c2 ⊢;rw[e4] at c4 ⊢;rw[hus] at c1 ⊢;unfold maxLen at c1' c2' c4';have b1:=hf.names;have b2:=hf.nums;have b3:=hf.texts;have b4:=hf.raw;obtain⟨t,ht⟩:=Zq r.type;rw[ht];obtain⟨ln,hln⟩:=Zq r.names.length;obtain⟨lm,hlm⟩:=Zq r.nums.length;obtain⟨lt,hlt⟩:=Zq r.texts.length;obtain⟨lr,hlr⟩:=Zq r.raw.length;rw[hln] at c1 b1 ⊢;rw[hlm] at c2 b2 ⊢;rw[hlt] at c3 b3 ⊢;rw[hlr] at c4 b4 ⊢;have HUS:=Hd (hus.trans hln);have HL:=Hd (And.intro hln (And.intro hlm (And.intro hlt hlr)));obtain⟨W1,hW1⟩:=Zq (w0.alloc (.cells #[.int .i64 t,.slice on ln cn,.slice om lm cm,.slice ot lt ct,.slice or lr cr] 117));have hb1:Below w0.heap.size w0 W1:=by subst hW1;exact Zr
 have hblk:Blk w0.heap.size #[.int .i64 t,.slice on ln cn,.slice om lm cm,.slice ot lt ct,.slice or lr cr] 117 W1:=by subst hW1;exact Blk.new w0 _ _
 have d0:W1.cell? ⟨w0.heap.size,0,none⟩=some _:=hblk.cell 0;have d1:W1.cell? ⟨w0.heap.size,1,none⟩=some _:=hblk.cell 1;have d2:W1.cell? ⟨w0.heap.size,2,none⟩=some _:=hblk.cell 2;have d3:W1.cell? ⟨w0.heap.size,3,none⟩=some _:=hblk.cell 3;have d4:W1.cell? ⟨w0.heap.size,4,none⟩=some _:=hblk.cell 4;have HB:=Hd hb1;have HBL:=Hd hblk;have HC:=Hd (counts_any t W1);have i1:(ln:Int)<=8:=by omega
 have i2:(lm:Int)<=12:=by omega
 have i3:(lt:Int)<=40:=by omega
 have i4:(lr:Int)<=1100:=by omega
 clear h1 h1' h2 h3 h4 hb1 hblk hln hlm hlt hlr e2 e4 hus hf ht;by_cases g1:t<1
 ·have g1d:decide (t<1)=true:=by simpa using g1
  go_enter Tryz.func100,Tryz.ntmps100
  go_wp2_with fail
  go_ret
  exact⟨_,rfl,fun h=>by first|exact HQ.out|exact absurd h (by decide),HB.out⟩
 have g1d:decide (t<1)=false:=by simpa using g1
 by_cases g2:65535<t
 ·have g2d:decide (65535<t)=true:=by simpa using g2
  go_enter Tryz.func100,Tryz.ntmps100
  go_wp2_with fail
  go_ret
  exact⟨_,rfl,fun h=>by first|exact HQ.out|exact absurd h (by decide),HB.out⟩
 have g2d:decide (65535<t)=false:=by simpa using g2
 go_enter Tryz.func100,Tryz.ntmps100
 go_wp2_with fail
 refine HC.out.mono ?_;rintro e w1 ⟨⟨a,b,c,rfl,h15,h2a⟩,rfl⟩;have HH15:=Hd h15;have HH2:=Hd h2a;clear h15 h2a;by_cases h16:t=16
 ·have h16b:(t == 16)=true:=by simpa using h16
  have h16d:decide (t=16)=true:=by simpa using h16
  clear h16;by_cases hl1:1<=lt
  ·have hl2:(1:Int)<=(lt:Int):=by omega
   have hl3:decide ((1:Int)<=(lt:Int))=true:=by simp;omega
   have hl4:decide (1<=lt)=true:=by simp;omega
   obtain⟨tx,htx⟩:∃tx,decide ((lt:Int)<=32)=tx:=⟨_,rfl⟩;have htx2:decide (lt<=32)=tx:=by rw[<-htx];simp;omega
   by_cases ha:(ln:Int)=a
   ·have ha1:((ln:Int) != a)=false:=by simp[ha]
    have ha2:decide ((ln:Int)=a)=true:=by simp[ha]
    have HQ:Hid (t=2->ln=1):=fun h=>by have:=HH2.out h;omega
    clear ha;by_cases hb:(lm:Int)=b
    ·have hb1:((lm:Int) != b)=false:=by simp[hb]
     have hb2:decide ((lm:Int)=b)=true:=by simp[hb]
     have EB:=Hd hb;clear hb;by_cases hc:0<=c
     ·have hc1:decide (0<=c)=true:=by simpa using hc
      by_cases hr:(lr:Int)=c
      ·have hr1:((lr:Int) != c)=false:=by simp[hr]
       have hr2:decide ((lr:Int)=c)=true:=by simp[hr]
       clear hr;cases tx with
       | false =>
        go_wp2_with fail
        go_ret
        exact⟨_,rfl,fun h=>by first|exact HQ.out|exact absurd h (by decide),HB.out⟩
       | true =>
        go_wp2
        go_loopw [7] (fun i wr=>∃k:Nat,k<=ln/\i=.int .i64 k/\Below W1.heap.size W1 wr) (fun i _=>ln-(intOf i).toNat)
        case atStart=>exact⟨0,Nat.zero_le _,rfl,Below.refl _ _⟩
        case round =>
         obtain⟨k,hk,rfl,hb⟩:=hrel;have q0:wr.cell? ⟨w0.heap.size,0,none⟩=some _:=(HBL.out.below hb).cell 0;have q1:wr.cell? ⟨w0.heap.size,1,none⟩=some _:=(HBL.out.below hb).cell 1;have q2:wr.cell? ⟨w0.heap.size,2,none⟩=some _:=(HBL.out.below hb).cell 2;have q3:wr.cell? ⟨w0.heap.size,3,none⟩=some _:=(HBL.out.below hb).cell 3;have q4:wr.cell? ⟨w0.heap.size,4,none⟩=some _:=(HBL.out.below hb).cell 4;have HBB:=Hd hb;clear d0 d1 d2 d3 d4 hW1;by_cases hlt:k<ln
         ·have hlz:(k:Int)<(ln:Int):=by omega
          have hku:k<us.length:=by rw[HUS.out];exact hlt
          have hkn:k<r.names.length:=by rw[HL.out.1];exact hlt
          obtain⟨a',rfl,y1⟩:=H1.out.cells _ (Z5 HB.out hb) k hku;obtain⟨v,hv⟩:=Zq (us[k]);rw[hv] at y1;have hrd:Rd v r.names[k] wr:=by rw[<-hv];exact (H1'.out k hku hkn).below (Z5 HB.out hb)
          obtain⟨o5,c5,rfl,_,_⟩:=hrd.form;have HF:=Hd (zB _ _ _ hrd (HN.out k hkn));obtain⟨z,hz⟩:=Zq (Nm.check r.names[k]);rw[hz] at HF;clear hrd hv hz hb;by_cases hz0:z=0
          ·subst hz0
           go_wp2_with fail
           refine HF.out.mono ?_;rintro e w5 ⟨rfl,b5⟩;have hb5:=Z5 HBB.out b5;clear b5;go_wp2_with fail
           exact⟨⟨k+1,hlt,by go_num,hb5⟩,by simp[intOf];omega⟩
          ·have hz1:(z != 0)=true:=by simpa using hz0
           go_wp2_with fail
           refine HF.out.mono ?_;rintro e w5 ⟨rfl,b5⟩;have hb5:=Z5 (Z5 HB.out HBB.out) b5;clear b5;go_wp2_with fail
           go_ret
           exact⟨_,rfl,fun h=>by first|exact HQ.out|exact absurd h (by decide),hb5⟩
         ·have hlz:¬((k:Int)<(ln:Int)):=by omega
          clear hb;by_cases h15:t=15
          ·have hm1:0<(numC r.nums).length:=by
            have e1:=HH15.out h15;have e2:=HL.out.2.1;have e3:(numC r.nums).length=r.nums.length:=by simp[numC]
            have e4:=EB.out;omega
           have hmz:(0:Int)<(lm:Int):=by
            have e1:=HH15.out h15;have e4:=EB.out;omega
           obtain⟨a2,rfl,y2⟩:=H2.out.cells _ (Z5 HB.out HBB.out) 0 hm1;obtain⟨u,hu⟩:∃u:Nat,(numC r.nums)[0]=.int .u32 (u:Int):=⟨r.nums[0]'(by simpa[numC] using hm1),by simp[numC]⟩
           rw[hu] at y2;have y2':wr.cell? a2=some (.int .u32 (u:Int)):=y2;clear y2 hu;have h15b:(t == 15)=true:=by simpa using h15
           have h15d:decide (t=15)=true:=by simpa using h15
           have HT15:=Hd h15;clear h15;by_cases gu:65535<u
           ·have gu1:(65535:Int)<(u:Int):=by omega
            have gu2:decide ((65535:Int)<(u:Int))=true:=by simp;omega
            have gu3:decide (65535<u)=true:=by simp;omega
            go_wp2_with fail
            go_ret
            exact⟨_,rfl,fun h=>by first|exact HQ.out|exact absurd h (by decide),Z5 HB.out HBB.out⟩
           ·have gu1:¬(65535:Int)<(u:Int):=by omega
            have gu2:decide ((65535:Int)<(u:Int))=false:=by simp;omega
            have gu3:decide (65535<u)=false:=by simp;omega
            go_wp2
            go_loopw [9] (fun i wx=>∃k:Nat,k<=lt/\i=.int .i64 k/\wx=wr) (fun i _=>lt-(intOf i).toNat)
            case atStart=>exact⟨0,Nat.zero_le _,rfl,by trivial⟩
            case round =>
             obtain⟨k',hk',rfl,rfl⟩:=hrel;by_cases hlt':k'<lt
             ·have hlz':(k':Int)<(lt:Int):=by omega
              have hkt:k'<r.texts.length:=by rw[HL.out.2.2.1];exact hlt'
              obtain⟨a3,rfl,y1⟩:=H3.out _ (Z5 HB.out HBB.out) k' hkt;obtain⟨tx',htx'⟩:∃tx,r.texts[k']=tx:=⟨_,rfl⟩;rw[htx'] at y1;obtain⟨m,hm⟩:=Zq tx'.length;clear htx';by_cases g5:255<m
              ·have g5':(255:Int)<(m:Int):=by omega
               have g5d:decide (255<(m:Int))=true:=by simp;omega
               have g5n:decide (255<m)=true:=by simp;omega
               go_wp2_with fail
               go_ret
               exact⟨_,rfl,fun h=>by first|exact HQ.out|exact absurd h (by decide),Z5 HB.out HBB.out⟩
              ·have g5':¬(255:Int)<(m:Int):=by omega
               have g5d:decide (255<(m:Int))=false:=by simp;omega
               have g5n:decide (255<m)=false:=by simp;omega
               go_wp2_with fail
               exact⟨⟨k'+1,hlt',by go_num,by trivial⟩,by simp[intOf];omega⟩
             ·have hlz':¬((k':Int)<(lt:Int)):=by omega
              by_cases gr:1024<lr
              ·have gr1:(1024:Int)<(lr:Int):=by omega
               have gr2:decide ((1024:Int)<(lr:Int))=true:=by simp;omega
               have gr3:decide (1024<lr)=true:=by simp;omega
               go_wp2_with fail
               go_ret
               exact⟨_,rfl,fun h=>by first|exact HQ.out|exact absurd h (by decide),Z5 HB.out HBB.out⟩
              ·have gr1:¬(1024:Int)<(lr:Int):=by omega
               have gr2:decide ((1024:Int)<(lr:Int))=false:=by simp;omega
               have gr3:decide (1024<lr)=false:=by simp;omega
               go_wp2_with fail
               go_ret
               exact⟨_,rfl,fun h=>by first|exact HQ.out|exact absurd h (by decide),Z5 HB.out HBB.out⟩
          ·have h15b:(t == 15)=false:=by simpa using h15
           have h15d:decide (t=15)=false:=by simpa using h15
           go_wp2
           go_loopw [9] (fun i wx=>∃k:Nat,k<=lt/\i=.int .i64 k/\wx=wr) (fun i _=>lt-(intOf i).toNat)
           case atStart=>exact⟨0,Nat.zero_le _,rfl,by trivial⟩
           case round =>
            obtain⟨k',hk',rfl,rfl⟩:=hrel;by_cases hlt':k'<lt
            ·have hlz':(k':Int)<(lt:Int):=by omega
             have hkt:k'<r.texts.length:=by rw[HL.out.2.2.1];exact hlt'
             obtain⟨a3,rfl,y1⟩:=H3.out _ (Z5 HB.out HBB.out) k' hkt;obtain⟨tx',htx'⟩:∃tx,r.texts[k']=tx:=⟨_,rfl⟩;rw[htx'] at y1;obtain⟨m,hm⟩:=Zq tx'.length;clear htx';by_cases g5:255<m
             ·have g5':(255:Int)<(m:Int):=by omega
              have g5d:decide (255<(m:Int))=true:=by simp;omega
              have g5n:decide (255<m)=true:=by simp;omega
              go_wp2_with fail
              go_ret
              exact⟨_,rfl,fun h=>by first|exact HQ.out|exact absurd h (by decide),Z5 HB.out HBB.out⟩
             ·have g5':¬(255:Int)<(m:Int):=by omega
              have g5d:decide (255<(m:Int))=false:=by simp;omega
              have g5n:decide (255<m)=false:=by simp;omega
              go_wp2_with fail
              exact⟨⟨k'+1,hlt',by go_num,by trivial⟩,by simp[intOf];omega⟩
            ·have hlz':¬((k':Int)<(lt:Int)):=by omega
             by_cases gr:1024<lr
             ·have gr1:(1024:Int)<(lr:Int):=by omega
              have gr2:decide ((1024:Int)<(lr:Int))=true:=by simp;omega
              have gr3:decide (1024<lr)=true:=by simp;omega
              go_wp2_with fail
              go_ret
              exact⟨_,rfl,fun h=>by first|exact HQ.out|exact absurd h (by decide),Z5 HB.out HBB.out⟩
             ·have gr1:¬(1024:Int)<(lr:Int):=by omega
              have gr2:decide ((1024:Int)<(lr:Int))=false:=by simp;omega
              have gr3:decide (1024<lr)=false:=by simp;omega
              go_wp2_with fail
              go_ret
              exact⟨_,rfl,fun h=>by first|exact HQ.out|exact absurd h (by decide),Z5 HB.out HBB.out⟩
      ·have hr1:((lr:Int) != c)=true:=by simpa using hr
       have hr2:decide ((lr:Int)=c)=false:=by simpa using hr
       go_wp2_with fail
       go_ret
       exact⟨_,rfl,fun h=>by first|exact HQ.out|exact absurd h (by decide),HB.out⟩
     ·have hc1:decide (0<=c)=false:=by simpa using hc
      cases tx with
      | false =>
       go_wp2_with fail
       go_ret
       exact⟨_,rfl,fun h=>by first|exact HQ.out|exact absurd h (by decide),HB.out⟩
      | true =>
       go_wp2
       go_loopw [7] (fun i wr=>∃k:Nat,k<=ln/\i=.int .i64 k/\Below W1.heap.size W1 wr) (fun i _=>ln-(intOf i).toNat)
       case atStart=>exact⟨0,Nat.zero_le _,rfl,Below.refl _ _⟩
       case round =>
        obtain⟨k,hk,rfl,hb⟩:=hrel;have q0:wr.cell? ⟨w0.heap.size,0,none⟩=some _:=(HBL.out.below hb).cell 0;have q1:wr.cell? ⟨w0.heap.size,1,none⟩=some _:=(HBL.out.below hb).cell 1;have q2:wr.cell? ⟨w0.heap.size,2,none⟩=some _:=(HBL.out.below hb).cell 2;have q3:wr.cell? ⟨w0.heap.size,3,none⟩=some _:=(HBL.out.below hb).cell 3;have q4:wr.cell? ⟨w0.heap.size,4,none⟩=some _:=(HBL.out.below hb).cell 4;have HBB:=Hd hb;clear d0 d1 d2 d3 d4 hW1;by_cases hlt:k<ln
        ·have hlz:(k:Int)<(ln:Int):=by omega
         have hku:k<us.length:=by rw[HUS.out];exact hlt
         have hkn:k<r.names.length:=by rw[HL.out.1];exact hlt
         obtain⟨a',rfl,y1⟩:=H1.out.cells _ (Z5 HB.out hb) k hku;obtain⟨v,hv⟩:=Zq (us[k]);rw[hv] at y1;have hrd:Rd v r.names[k] wr:=by rw[<-hv];exact (H1'.out k hku hkn).below (Z5 HB.out hb)
         obtain⟨o5,c5,rfl,_,_⟩:=hrd.form;have HF:=Hd (zB _ _ _ hrd (HN.out k hkn));obtain⟨z,hz⟩:=Zq (Nm.check r.names[k]);rw[hz] at HF;clear hrd hv hz hb;by_cases hz0:z=0
         ·subst hz0
          go_wp2_with fail
          refine HF.out.mono ?_;rintro e w5 ⟨rfl,b5⟩;have hb5:=Z5 HBB.out b5;clear b5;go_wp2_with fail
          exact⟨⟨k+1,hlt,by go_num,hb5⟩,by simp[intOf];omega⟩
         ·have hz1:(z != 0)=true:=by simpa using hz0
          go_wp2_with fail
          refine HF.out.mono ?_;rintro e w5 ⟨rfl,b5⟩;have hb5:=Z5 (Z5 HB.out HBB.out) b5;clear b5;go_wp2_with fail
          go_ret
          exact⟨_,rfl,fun h=>by first|exact HQ.out|exact absurd h (by decide),hb5⟩
        ·have hlz:¬((k:Int)<(ln:Int)):=by omega
         clear hb;by_cases h15:t=15
         ·have hm1:0<(numC r.nums).length:=by
           have e1:=HH15.out h15;have e2:=HL.out.2.1;have e3:(numC r.nums).length=r.nums.length:=by simp[numC]
           have e4:=EB.out;omega
          have hmz:(0:Int)<(lm:Int):=by
           have e1:=HH15.out h15;have e4:=EB.out;omega
          obtain⟨a2,rfl,y2⟩:=H2.out.cells _ (Z5 HB.out HBB.out) 0 hm1;obtain⟨u,hu⟩:∃u:Nat,(numC r.nums)[0]=.int .u32 (u:Int):=⟨r.nums[0]'(by simpa[numC] using hm1),by simp[numC]⟩
          rw[hu] at y2;have y2':wr.cell? a2=some (.int .u32 (u:Int)):=y2;clear y2 hu;have h15b:(t == 15)=true:=by simpa using h15
          have h15d:decide (t=15)=true:=by simpa using h15
          have HT15:=Hd h15;clear h15;by_cases gu:65535<u
          ·have gu1:(65535:Int)<(u:Int):=by omega
           have gu2:decide ((65535:Int)<(u:Int))=true:=by simp;omega
           have gu3:decide (65535<u)=true:=by simp;omega
           go_wp2_with fail
           go_ret
           exact⟨_,rfl,fun h=>by first|exact HQ.out|exact absurd h (by decide),Z5 HB.out HBB.out⟩
          ·have gu1:¬(65535:Int)<(u:Int):=by omega
           have gu2:decide ((65535:Int)<(u:Int))=false:=by simp;omega
           have gu3:decide (65535<u)=false:=by simp;omega
           go_wp2
           go_loopw [9] (fun i wx=>∃k:Nat,k<=lt/\i=.int .i64 k/\wx=wr) (fun i _=>lt-(intOf i).toNat)
           case atStart=>exact⟨0,Nat.zero_le _,rfl,by trivial⟩
           case round =>
            obtain⟨k',hk',rfl,rfl⟩:=hrel;by_cases hlt':k'<lt
            ·have hlz':(k':Int)<(lt:Int):=by omega
             have hkt:k'<r.texts.length:=by rw[HL.out.2.2.1];exact hlt'
             obtain⟨a3,rfl,y1⟩:=H3.out _ (Z5 HB.out HBB.out) k' hkt;obtain⟨tx',htx'⟩:∃tx,r.texts[k']=tx:=⟨_,rfl⟩;rw[htx'] at y1;obtain⟨m,hm⟩:=Zq tx'.length;clear htx';by_cases g5:255<m
             ·have g5':(255:Int)<(m:Int):=by omega
              have g5d:decide (255<(m:Int))=true:=by simp;omega
              have g5n:decide (255<m)=true:=by simp;omega
              go_wp2_with fail
              go_ret
              exact⟨_,rfl,fun h=>by first|exact HQ.out|exact absurd h (by decide),Z5 HB.out HBB.out⟩
             ·have g5':¬(255:Int)<(m:Int):=by omega
              have g5d:decide (255<(m:Int))=false:=by simp;omega
              have g5n:decide (255<m)=false:=by simp;omega
              go_wp2_with fail
              exact⟨⟨k'+1,hlt',by go_num,by trivial⟩,by simp[intOf];omega⟩
            ·have hlz':¬((k':Int)<(lt:Int)):=by omega
             by_cases gr:1024<lr
             ·have gr1:(1024:Int)<(lr:Int):=by omega
              have gr2:decide ((1024:Int)<(lr:Int))=true:=by simp;omega
              have gr3:decide (1024<lr)=true:=by simp;omega
              go_wp2_with fail
              go_ret
              exact⟨_,rfl,fun h=>by first|exact HQ.out|exact absurd h (by decide),Z5 HB.out HBB.out⟩
             ·have gr1:¬(1024:Int)<(lr:Int):=by omega
              have gr2:decide ((1024:Int)<(lr:Int))=false:=by simp;omega
              have gr3:decide (1024<lr)=false:=by simp;omega
              go_wp2_with fail
              go_ret
              exact⟨_,rfl,fun h=>by first|exact HQ.out|exact absurd h (by decide),Z5 HB.out HBB.out⟩
         ·have h15b:(t == 15)=false:=by simpa using h15
          have h15d:decide (t=15)=false:=by simpa using h15
          go_wp2
          go_loopw [9] (fun i wx=>∃k:Nat,k<=lt/\i=.int .i64 k/\wx=wr) (fun i _=>lt-(intOf i).toNat)
          case atStart=>exact⟨0,Nat.zero_le _,rfl,by trivial⟩
          case round =>
           obtain⟨k',hk',rfl,rfl⟩:=hrel;by_cases hlt':k'<lt
           ·have hlz':(k':Int)<(lt:Int):=by omega
            have hkt:k'<r.texts.length:=by rw[HL.out.2.2.1];exact hlt'
            obtain⟨a3,rfl,y1⟩:=H3.out _ (Z5 HB.out HBB.out) k' hkt;obtain⟨tx',htx'⟩:∃tx,r.texts[k']=tx:=⟨_,rfl⟩;rw[htx'] at y1;obtain⟨m,hm⟩:=Zq tx'.length;clear htx';by_cases g5:255<m
            ·have g5':(255:Int)<(m:Int):=by omega
             have g5d:decide (255<(m:Int))=true:=by simp;omega
             have g5n:decide (255<m)=true:=by simp;omega
             go_wp2_with fail
             go_ret
             exact⟨_,rfl,fun h=>by first|exact HQ.out|exact absurd h (by decide),Z5 HB.out HBB.out⟩
            ·have g5':¬(255:Int)<(m:Int):=by omega
             have g5d:decide (255<(m:Int))=false:=by simp;omega
             have g5n:decide (255<m)=false:=by simp;omega
             go_wp2_with fail
             exact⟨⟨k'+1,hlt',by go_num,by trivial⟩,by simp[intOf];omega⟩
           ·have hlz':¬((k':Int)<(lt:Int)):=by omega
            by_cases gr:1024<lr
            ·have gr1:(1024:Int)<(lr:Int):=by omega
             have gr2:decide ((1024:Int)<(lr:Int))=true:=by simp;omega
             have gr3:decide (1024<lr)=true:=by simp;omega
             go_wp2_with fail
             go_ret
             exact⟨_,rfl,fun h=>by first|exact HQ.out|exact absurd h (by decide),Z5 HB.out HBB.out⟩
            ·have gr1:¬(1024:Int)<(lr:Int):=by omega
             have gr2:decide ((1024:Int)<(lr:Int))=false:=by simp;omega
             have gr3:decide (1024<lr)=false:=by simp;omega
             go_wp2_with fail
             go_ret
             exact⟨_,rfl,fun h=>by first|exact HQ.out|exact absurd h (by decide),Z5 HB.out HBB.out⟩
    ·have hb1:((lm:Int) != b)=true:=by simpa using hb
     have hb2:decide ((lm:Int)=b)=false:=by simpa using hb
     go_wp2_with fail
     go_ret
     exact⟨_,rfl,fun h=>by first|exact HQ.out|exact absurd h (by decide),HB.out⟩
   ·have ha1:((ln:Int) != a)=true:=by simpa using ha
    have ha2:decide ((ln:Int)=a)=false:=by simpa using ha
    go_wp2_with fail
    go_ret
    exact⟨_,rfl,fun h=>by first|exact HQ.out|exact absurd h (by decide),HB.out⟩
  ·have hl2:¬(1:Int)<=(lt:Int):=by omega
   have hl3:decide ((1:Int)<=(lt:Int))=false:=by simp;omega
   have hl4:decide (1<=lt)=false:=by simp;omega
   by_cases ha:(ln:Int)=a
   ·have ha1:((ln:Int) != a)=false:=by simp[ha]
    have ha2:decide ((ln:Int)=a)=true:=by simp[ha]
    have HQ:Hid (t=2->ln=1):=fun h=>by have:=HH2.out h;omega
    clear ha;by_cases hb:(lm:Int)=b
    ·have hb1:((lm:Int) != b)=false:=by simp[hb]
     have hb2:decide ((lm:Int)=b)=true:=by simp[hb]
     have EB:=Hd hb;clear hb;by_cases hc:0<=c
     ·have hc1:decide (0<=c)=true:=by simpa using hc
      by_cases hr:(lr:Int)=c
      ·have hr1:((lr:Int) != c)=false:=by simp[hr]
       have hr2:decide ((lr:Int)=c)=true:=by simp[hr]
       clear hr;go_wp2_with fail
       go_ret
       exact⟨_,rfl,fun h=>by first|exact HQ.out|exact absurd h (by decide),HB.out⟩
      ·have hr1:((lr:Int) != c)=true:=by simpa using hr
       have hr2:decide ((lr:Int)=c)=false:=by simpa using hr
       go_wp2_with fail
       go_ret
       exact⟨_,rfl,fun h=>by first|exact HQ.out|exact absurd h (by decide),HB.out⟩
     ·have hc1:decide (0<=c)=false:=by simpa using hc
      go_wp2_with fail
      go_ret
      exact⟨_,rfl,fun h=>by first|exact HQ.out|exact absurd h (by decide),HB.out⟩
    ·have hb1:((lm:Int) != b)=true:=by simpa using hb
     have hb2:decide ((lm:Int)=b)=false:=by simpa using hb
     go_wp2_with fail
     go_ret
     exact⟨_,rfl,fun h=>by first|exact HQ.out|exact absurd h (by decide),HB.out⟩
   ·have ha1:((ln:Int) != a)=true:=by simpa using ha
    have ha2:decide ((ln:Int)=a)=false:=by simpa using ha
    go_wp2_with fail
    go_ret
    exact⟨_,rfl,fun h=>by first|exact HQ.out|exact absurd h (by decide),HB.out⟩
 ·have h16b:(t == 16)=false:=by simpa using h16
  have h16d:decide (t=16)=false:=by simpa using h16
  clear h16;obtain⟨tx,htx⟩:∃tx,((lt:Int) == 0)=tx:=⟨_,rfl⟩;have htx2:decide ((lt:Int)=0)=tx:=by rw[<-htx];rfl
  by_cases ha:(ln:Int)=a
  ·have ha1:((ln:Int) != a)=false:=by simp[ha]
   have ha2:decide ((ln:Int)=a)=true:=by simp[ha]
   have HQ:Hid (t=2->ln=1):=fun h=>by have:=HH2.out h;omega
   clear ha;by_cases hb:(lm:Int)=b
   ·have hb1:((lm:Int) != b)=false:=by simp[hb]
    have hb2:decide ((lm:Int)=b)=true:=by simp[hb]
    have EB:=Hd hb;clear hb;by_cases hc:0<=c
    ·have hc1:decide (0<=c)=true:=by simpa using hc
     by_cases hr:(lr:Int)=c
     ·have hr1:((lr:Int) != c)=false:=by simp[hr]
      have hr2:decide ((lr:Int)=c)=true:=by simp[hr]
      clear hr;cases tx with
      | false =>
       go_wp2_with fail
       go_ret
       exact⟨_,rfl,fun h=>by first|exact HQ.out|exact absurd h (by decide),HB.out⟩
      | true =>
       go_wp2
       go_loopw [7] (fun i wr=>∃k:Nat,k<=ln/\i=.int .i64 k/\Below W1.heap.size W1 wr) (fun i _=>ln-(intOf i).toNat)
       case atStart=>exact⟨0,Nat.zero_le _,rfl,Below.refl _ _⟩
       case round =>
        obtain⟨k,hk,rfl,hb⟩:=hrel;have q0:wr.cell? ⟨w0.heap.size,0,none⟩=some _:=(HBL.out.below hb).cell 0;have q1:wr.cell? ⟨w0.heap.size,1,none⟩=some _:=(HBL.out.below hb).cell 1;have q2:wr.cell? ⟨w0.heap.size,2,none⟩=some _:=(HBL.out.below hb).cell 2;have q3:wr.cell? ⟨w0.heap.size,3,none⟩=some _:=(HBL.out.below hb).cell 3;have q4:wr.cell? ⟨w0.heap.size,4,none⟩=some _:=(HBL.out.below hb).cell 4;have HBB:=Hd hb;clear d0 d1 d2 d3 d4 hW1;by_cases hlt:k<ln
        ·have hlz:(k:Int)<(ln:Int):=by omega
         have hku:k<us.length:=by rw[HUS.out];exact hlt
         have hkn:k<r.names.length:=by rw[HL.out.1];exact hlt
         obtain⟨a',rfl,y1⟩:=H1.out.cells _ (Z5 HB.out hb) k hku;obtain⟨v,hv⟩:=Zq (us[k]);rw[hv] at y1;have hrd:Rd v r.names[k] wr:=by rw[<-hv];exact (H1'.out k hku hkn).below (Z5 HB.out hb)
         obtain⟨o5,c5,rfl,_,_⟩:=hrd.form;have HF:=Hd (zB _ _ _ hrd (HN.out k hkn));obtain⟨z,hz⟩:=Zq (Nm.check r.names[k]);rw[hz] at HF;clear hrd hv hz hb;by_cases hz0:z=0
         ·subst hz0
          go_wp2_with fail
          refine HF.out.mono ?_;rintro e w5 ⟨rfl,b5⟩;have hb5:=Z5 HBB.out b5;clear b5;go_wp2_with fail
          exact⟨⟨k+1,hlt,by go_num,hb5⟩,by simp[intOf];omega⟩
         ·have hz1:(z != 0)=true:=by simpa using hz0
          go_wp2_with fail
          refine HF.out.mono ?_;rintro e w5 ⟨rfl,b5⟩;have hb5:=Z5 (Z5 HB.out HBB.out) b5;clear b5;go_wp2_with fail
          go_ret
          exact⟨_,rfl,fun h=>by first|exact HQ.out|exact absurd h (by decide),hb5⟩
        ·have hlz:¬((k:Int)<(ln:Int)):=by omega
         clear hb;by_cases h15:t=15
         ·have hm1:0<(numC r.nums).length:=by
           have e1:=HH15.out h15;have e2:=HL.out.2.1;have e3:(numC r.nums).length=r.nums.length:=by simp[numC]
           have e4:=EB.out;omega
          have hmz:(0:Int)<(lm:Int):=by
           have e1:=HH15.out h15;have e4:=EB.out;omega
          obtain⟨a2,rfl,y2⟩:=H2.out.cells _ (Z5 HB.out HBB.out) 0 hm1;obtain⟨u,hu⟩:∃u:Nat,(numC r.nums)[0]=.int .u32 (u:Int):=⟨r.nums[0]'(by simpa[numC] using hm1),by simp[numC]⟩
          rw[hu] at y2;have y2':wr.cell? a2=some (.int .u32 (u:Int)):=y2;clear y2 hu;have h15b:(t == 15)=true:=by simpa using h15
          have h15d:decide (t=15)=true:=by simpa using h15
          have HT15:=Hd h15;clear h15;by_cases gu:65535<u
          ·have gu1:(65535:Int)<(u:Int):=by omega
           have gu2:decide ((65535:Int)<(u:Int))=true:=by simp;omega
           have gu3:decide (65535<u)=true:=by simp;omega
           go_wp2_with fail
           go_ret
           exact⟨_,rfl,fun h=>by first|exact HQ.out|exact absurd h (by decide),Z5 HB.out HBB.out⟩
          ·have gu1:¬(65535:Int)<(u:Int):=by omega
           have gu2:decide ((65535:Int)<(u:Int))=false:=by simp;omega
           have gu3:decide (65535<u)=false:=by simp;omega
           go_wp2
           go_loopw [9] (fun i wx=>∃k:Nat,k<=lt/\i=.int .i64 k/\wx=wr) (fun i _=>lt-(intOf i).toNat)
           case atStart=>exact⟨0,Nat.zero_le _,rfl,by trivial⟩
           case round =>
            obtain⟨k',hk',rfl,rfl⟩:=hrel;by_cases hlt':k'<lt
            ·have hlz':(k':Int)<(lt:Int):=by omega
             have hkt:k'<r.texts.length:=by rw[HL.out.2.2.1];exact hlt'
             obtain⟨a3,rfl,y1⟩:=H3.out _ (Z5 HB.out HBB.out) k' hkt;obtain⟨tx',htx'⟩:∃tx,r.texts[k']=tx:=⟨_,rfl⟩;rw[htx'] at y1;obtain⟨m,hm⟩:=Zq tx'.length;clear htx';by_cases g5:255<m
             ·have g5':(255:Int)<(m:Int):=by omega
              have g5d:decide (255<(m:Int))=true:=by simp;omega
              have g5n:decide (255<m)=true:=by simp;omega
              go_wp2_with fail
              go_ret
              exact⟨_,rfl,fun h=>by first|exact HQ.out|exact absurd h (by decide),Z5 HB.out HBB.out⟩
             ·have g5':¬(255:Int)<(m:Int):=by omega
              have g5d:decide (255<(m:Int))=false:=by simp;omega
              have g5n:decide (255<m)=false:=by simp;omega
              go_wp2_with fail
              exact⟨⟨k'+1,hlt',by go_num,by trivial⟩,by simp[intOf];omega⟩
            ·have hlz':¬((k':Int)<(lt:Int)):=by omega
             by_cases gr:1024<lr
             ·have gr1:(1024:Int)<(lr:Int):=by omega
              have gr2:decide ((1024:Int)<(lr:Int))=true:=by simp;omega
              have gr3:decide (1024<lr)=true:=by simp;omega
              go_wp2_with fail
              go_ret
              exact⟨_,rfl,fun h=>by first|exact HQ.out|exact absurd h (by decide),Z5 HB.out HBB.out⟩
             ·have gr1:¬(1024:Int)<(lr:Int):=by omega
              have gr2:decide ((1024:Int)<(lr:Int))=false:=by simp;omega
              have gr3:decide (1024<lr)=false:=by simp;omega
              go_wp2_with fail
              go_ret
              exact⟨_,rfl,fun h=>by first|exact HQ.out|exact absurd h (by decide),Z5 HB.out HBB.out⟩
         ·have h15b:(t == 15)=false:=by simpa using h15
          have h15d:decide (t=15)=false:=by simpa using h15
          go_wp2
          go_loopw [9] (fun i wx=>∃k:Nat,k<=lt/\i=.int .i64 k/\wx=wr) (fun i _=>lt-(intOf i).toNat)
          case atStart=>exact⟨0,Nat.zero_le _,rfl,by trivial⟩
          case round =>
           obtain⟨k',hk',rfl,rfl⟩:=hrel;by_cases hlt':k'<lt
           ·have hlz':(k':Int)<(lt:Int):=by omega
            have hkt:k'<r.texts.length:=by rw[HL.out.2.2.1];exact hlt'
            obtain⟨a3,rfl,y1⟩:=H3.out _ (Z5 HB.out HBB.out) k' hkt;obtain⟨tx',htx'⟩:∃tx,r.texts[k']=tx:=⟨_,rfl⟩;rw[htx'] at y1;obtain⟨m,hm⟩:=Zq tx'.length;clear htx';by_cases g5:255<m
            ·have g5':(255:Int)<(m:Int):=by omega
             have g5d:decide (255<(m:Int))=true:=by simp;omega
             have g5n:decide (255<m)=true:=by simp;omega
             go_wp2_with fail
             go_ret
             exact⟨_,rfl,fun h=>by first|exact HQ.out|exact absurd h (by decide),Z5 HB.out HBB.out⟩
            ·have g5':¬(255:Int)<(m:Int):=by omega
             have g5d:decide (255<(m:Int))=false:=by simp;omega
             have g5n:decide (255<m)=false:=by simp;omega
             go_wp2_with fail
             exact⟨⟨k'+1,hlt',by go_num,by trivial⟩,by simp[intOf];omega⟩
           ·have hlz':¬((k':Int)<(lt:Int)):=by omega
            by_cases gr:1024<lr
            ·have gr1:(1024:Int)<(lr:Int):=by omega
             have gr2:decide ((1024:Int)<(lr:Int))=true:=by simp;omega
             have gr3:decide (1024<lr)=true:=by simp;omega
             go_wp2_with fail
             go_ret
             exact⟨_,rfl,fun h=>by first|exact HQ.out|exact absurd h (by decide),Z5 HB.out HBB.out⟩
            ·have gr1:¬(1024:Int)<(lr:Int):=by omega
             have gr2:decide ((1024:Int)<(lr:Int))=false:=by simp;omega
             have gr3:decide (1024<lr)=false:=by simp;omega
             go_wp2_with fail
             go_ret
             exact⟨_,rfl,fun h=>by first|exact HQ.out|exact absurd h (by decide),Z5 HB.out HBB.out⟩
     ·have hr1:((lr:Int) != c)=true:=by simpa using hr
      have hr2:decide ((lr:Int)=c)=false:=by simpa using hr
      go_wp2_with fail
      go_ret
      exact⟨_,rfl,fun h=>by first|exact HQ.out|exact absurd h (by decide),HB.out⟩
    ·have hc1:decide (0<=c)=false:=by simpa using hc
     cases tx with
     | false =>
      go_wp2_with fail
      go_ret
      exact⟨_,rfl,fun h=>by first|exact HQ.out|exact absurd h (by decide),HB.out⟩
     | true =>
      go_wp2
      go_loopw [7] (fun i wr=>∃k:Nat,k<=ln/\i=.int .i64 k/\Below W1.heap.size W1 wr) (fun i _=>ln-(intOf i).toNat)
      case atStart=>exact⟨0,Nat.zero_le _,rfl,Below.refl _ _⟩
      case round =>
       obtain⟨k,hk,rfl,hb⟩:=hrel;have q0:wr.cell? ⟨w0.heap.size,0,none⟩=some _:=(HBL.out.below hb).cell 0;have q1:wr.cell? ⟨w0.heap.size,1,none⟩=some _:=(HBL.out.below hb).cell 1;have q2:wr.cell? ⟨w0.heap.size,2,none⟩=some _:=(HBL.out.below hb).cell 2;have q3:wr.cell? ⟨w0.heap.size,3,none⟩=some _:=(HBL.out.below hb).cell 3;have q4:wr.cell? ⟨w0.heap.size,4,none⟩=some _:=(HBL.out.below hb).cell 4;have HBB:=Hd hb;clear d0 d1 d2 d3 d4 hW1;by_cases hlt:k<ln
       ·have hlz:(k:Int)<(ln:Int):=by omega
        have hku:k<us.length:=by rw[HUS.out];exact hlt
        have hkn:k<r.names.length:=by rw[HL.out.1];exact hlt
        obtain⟨a',rfl,y1⟩:=H1.out.cells _ (Z5 HB.out hb) k hku;obtain⟨v,hv⟩:=Zq (us[k]);rw[hv] at y1;have hrd:Rd v r.names[k] wr:=by rw[<-hv];exact (H1'.out k hku hkn).below (Z5 HB.out hb)
        obtain⟨o5,c5,rfl,_,_⟩:=hrd.form;have HF:=Hd (zB _ _ _ hrd (HN.out k hkn));obtain⟨z,hz⟩:=Zq (Nm.check r.names[k]);rw[hz] at HF;clear hrd hv hz hb;by_cases hz0:z=0
        ·subst hz0
         go_wp2_with fail
         refine HF.out.mono ?_;rintro e w5 ⟨rfl,b5⟩;have hb5:=Z5 HBB.out b5;clear b5;go_wp2_with fail
         exact⟨⟨k+1,hlt,by go_num,hb5⟩,by simp[intOf];omega⟩
        ·have hz1:(z != 0)=true:=by simpa using hz0
         go_wp2_with fail
         refine HF.out.mono ?_;rintro e w5 ⟨rfl,b5⟩;have hb5:=Z5 (Z5 HB.out HBB.out) b5;clear b5;go_wp2_with fail
         go_ret
         exact⟨_,rfl,fun h=>by first|exact HQ.out|exact absurd h (by decide),hb5⟩
       ·have hlz:¬((k:Int)<(ln:Int)):=by omega
        clear hb;by_cases h15:t=15
        ·have hm1:0<(numC r.nums).length:=by
          have e1:=HH15.out h15;have e2:=HL.out.2.1;have e3:(numC r.nums).length=r.nums.length:=by simp[numC]
          have e4:=EB.out;omega
         have hmz:(0:Int)<(lm:Int):=by
          have e1:=HH15.out h15;have e4:=EB.out;omega
         obtain⟨a2,rfl,y2⟩:=H2.out.cells _ (Z5 HB.out HBB.out) 0 hm1;obtain⟨u,hu⟩:∃u:Nat,(numC r.nums)[0]=.int .u32 (u:Int):=⟨r.nums[0]'(by simpa[numC] using hm1),by simp[numC]⟩
         rw[hu] at y2;have y2':wr.cell? a2=some (.int .u32 (u:Int)):=y2;clear y2 hu;have h15b:(t == 15)=true:=by simpa using h15
         have h15d:decide (t=15)=true:=by simpa using h15
         have HT15:=Hd h15;clear h15;by_cases gu:65535<u
         ·have gu1:(65535:Int)<(u:Int):=by omega
          have gu2:decide ((65535:Int)<(u:Int))=true:=by simp;omega
          have gu3:decide (65535<u)=true:=by simp;omega
          go_wp2_with fail
          go_ret
          exact⟨_,rfl,fun h=>by first|exact HQ.out|exact absurd h (by decide),Z5 HB.out HBB.out⟩
         ·have gu1:¬(65535:Int)<(u:Int):=by omega
          have gu2:decide ((65535:Int)<(u:Int))=false:=by simp;omega
          have gu3:decide (65535<u)=false:=by simp;omega
          go_wp2
          go_loopw [9] (fun i wx=>∃k:Nat,k<=lt/\i=.int .i64 k/\wx=wr) (fun i _=>lt-(intOf i).toNat)
          case atStart=>exact⟨0,Nat.zero_le _,rfl,by trivial⟩
          case round =>
           obtain⟨k',hk',rfl,rfl⟩:=hrel;by_cases hlt':k'<lt
           ·have hlz':(k':Int)<(lt:Int):=by omega
            have hkt:k'<r.texts.length:=by rw[HL.out.2.2.1];exact hlt'
            obtain⟨a3,rfl,y1⟩:=H3.out _ (Z5 HB.out HBB.out) k' hkt;obtain⟨tx',htx'⟩:∃tx,r.texts[k']=tx:=⟨_,rfl⟩;rw[htx'] at y1;obtain⟨m,hm⟩:=Zq tx'.length;clear htx';by_cases g5:255<m
            ·have g5':(255:Int)<(m:Int):=by omega
             have g5d:decide (255<(m:Int))=true:=by simp;omega
             have g5n:decide (255<m)=true:=by simp;omega
             go_wp2_with fail
             go_ret
             exact⟨_,rfl,fun h=>by first|exact HQ.out|exact absurd h (by decide),Z5 HB.out HBB.out⟩
            ·have g5':¬(255:Int)<(m:Int):=by omega
             have g5d:decide (255<(m:Int))=false:=by simp;omega
             have g5n:decide (255<m)=false:=by simp;omega
             go_wp2_with fail
             exact⟨⟨k'+1,hlt',by go_num,by trivial⟩,by simp[intOf];omega⟩
           ·have hlz':¬((k':Int)<(lt:Int)):=by omega
            by_cases gr:1024<lr
            ·have gr1:(1024:Int)<(lr:Int):=by omega
             have gr2:decide ((1024:Int)<(lr:Int))=true:=by simp;omega
             have gr3:decide (1024<lr)=true:=by simp;omega
             go_wp2_with fail
             go_ret
             exact⟨_,rfl,fun h=>by first|exact HQ.out|exact absurd h (by decide),Z5 HB.out HBB.out⟩
            ·have gr1:¬(1024:Int)<(lr:Int):=by omega
             have gr2:decide ((1024:Int)<(lr:Int))=false:=by simp;omega
             have gr3:decide (1024<lr)=false:=by simp;omega
             go_wp2_with fail
             go_ret
             exact⟨_,rfl,fun h=>by first|exact HQ.out|exact absurd h (by decide),Z5 HB.out HBB.out⟩
        ·have h15b:(t == 15)=false:=by simpa using h15
         have h15d:decide (t=15)=false:=by simpa using h15
         go_wp2
         go_loopw [9] (fun i wx=>∃k:Nat,k<=lt/\i=.int .i64 k/\wx=wr) (fun i _=>lt-(intOf i).toNat)
         case atStart=>exact⟨0,Nat.zero_le _,rfl,by trivial⟩
         case round =>
          obtain⟨k',hk',rfl,rfl⟩:=hrel;by_cases hlt':k'<lt
          ·have hlz':(k':Int)<(lt:Int):=by omega
           have hkt:k'<r.texts.length:=by rw[HL.out.2.2.1];exact hlt'
           obtain⟨a3,rfl,y1⟩:=H3.out _ (Z5 HB.out HBB.out) k' hkt;obtain⟨tx',htx'⟩:∃tx,r.texts[k']=tx:=⟨_,rfl⟩;rw[htx'] at y1;obtain⟨m,hm⟩:=Zq tx'.length;clear htx';by_cases g5:255<m
           ·have g5':(255:Int)<(m:Int):=by omega
            have g5d:decide (255<(m:Int))=true:=by simp;omega
            have g5n:decide (255<m)=true:=by simp;omega
            go_wp2_with fail
            go_ret
            exact⟨_,rfl,fun h=>by first|exact HQ.out|exact absurd h (by decide),Z5 HB.out HBB.out⟩
           ·have g5':¬(255:Int)<(m:Int):=by omega
            have g5d:decide (255<(m:Int))=false:=by simp;omega
            have g5n:decide (255<m)=false:=by simp;omega
            go_wp2_with fail
            exact⟨⟨k'+1,hlt',by go_num,by trivial⟩,by simp[intOf];omega⟩
          ·have hlz':¬((k':Int)<(lt:Int)):=by omega
           by_cases gr:1024<lr
           ·have gr1:(1024:Int)<(lr:Int):=by omega
            have gr2:decide ((1024:Int)<(lr:Int))=true:=by simp;omega
            have gr3:decide (1024<lr)=true:=by simp;omega
            go_wp2_with fail
            go_ret
            exact⟨_,rfl,fun h=>by first|exact HQ.out|exact absurd h (by decide),Z5 HB.out HBB.out⟩
           ·have gr1:¬(1024:Int)<(lr:Int):=by omega
            have gr2:decide ((1024:Int)<(lr:Int))=false:=by simp;omega
            have gr3:decide (1024<lr)=false:=by simp;omega
            go_wp2_with fail
            go_ret
            exact⟨_,rfl,fun h=>by first|exact HQ.out|exact absurd h (by decide),Z5 HB.out HBB.out⟩
   ·have hb1:((lm:Int) != b)=true:=by simpa using hb
    have hb2:decide ((lm:Int)=b)=false:=by simpa using hb
    go_wp2_with fail
    go_ret
    exact⟨_,rfl,fun h=>by first|exact HQ.out|exact absurd h (by decide),HB.out⟩
  ·have ha1:((ln:Int) != a)=true:=by simpa using ha
   have ha2:decide ((ln:Int)=a)=false:=by simpa using ha
   go_wp2_with fail
   go_ret
   exact⟨_,rfl,fun h=>by first|exact HQ.out|exact absurd h (by decide),HB.out⟩
end Go.Proofs.YtgmbefolgppmdaaGreat
