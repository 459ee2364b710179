/- The laws' Is of any two data, of any two records' rows: that it answers. -/
import Derived.Test.YtgmbefolgppmdaaGreatLSfC
import Derived.Test.YtgmbefolgppmdaaGreatLGdE
import Derived.Test.YtgmbefolgppmdaaGreatLReg
import Derived.Test.YtgmbefolgppmdaaGreatLAli
namespace Go.Proofs.YtgmbefolgppmdaaGreat
open Go.RowKit Go.Shelf Go.Sort
set_option maxRecDepth 100000
def SomeB (w:World) (e:Ending) (w':World):Prop:=∃b,e=.returned (.bool b)/\Below w.heap.size w w'
set_option maxHeartbeats 4000000 in
theorem lawIsB_any (va vb:List Value) (r s:Rc.PRec) (w:World) (ha:DatRd va r w) (hb:DatRd vb s w) (rb:RB r) (sb:RB s) :
  Calls Tryz.prog 43 #[.agg va.toArray,.agg vb.toArray] w (SomeB w):=by
 obtain⟨vn,vm,vt,vr,rfl,a1,a2,a3,a4⟩:=ha;obtain⟨un,um,ut,ur,rfl,b1,b2,b3,b4⟩:=hb;obtain⟨p1,q1,rfl,_⟩:=a1.form;obtain⟨p2,q2,rfl,_⟩:=a2.form;obtain⟨p3,q3,rfl,_⟩:=a3.form;obtain⟨p4,q4,rfl,_⟩:=Sl.form a4;obtain⟨r1,t1,rfl,_⟩:=b1.form;obtain⟨r2,t2,rfl,_⟩:=b2.form;obtain⟨r3,t3,rfl,_⟩:=b3.form;obtain⟨r4,t4,rfl,_⟩:=Sl.form b4;have A1:=Hd a1;have A2:=Hd a2;have A3:=Hd a3;have A4:=Hd a4;have B1:=Hd b1;have B2:=Hd b2;have B3:=Hd b3;have B4:=Hd b4;have hlm:(numC r.nums).length=r.nums.length:=by unfold numC;simp
 have hlm':(numC s.nums).length=s.nums.length:=by unfold numC;simp
 have hl4:(r.raw.map fun b:UInt8=>Value.int .u8 (b.toNat:Int)).length=r.raw.length:=by simp
 have hl4':(s.raw.map fun b:UInt8=>Value.int .u8 (b.toNat:Int)).length=s.raw.length:=by simp
 rw[hlm] at A2;rw[hlm'] at B2;rw[hlm,hlm',hl4,hl4'];have e4:Hid (BtRd (.slice p4 r.raw.length q4) r.raw w):=by rw[<-hl4];exact A4.out
 have f4:Hid (BtRd (.slice r4 s.raw.length t4) s.raw w):=by rw[<-hl4'];exact B4.out
 have RBr:=Hd rb;have RBs:=Hd sb;clear a1 a2 a3 a4 b1 b2 b3 b4 A4 B4 hlm hl4 hlm' hl4' rb sb;have n1:(r.names.length:Int)<=1000:=by have:=RBr.out.names.1;omega
 have n2:(r.nums.length:Int)<=1000:=by have:=RBr.out.nums.1;omega
 have n3:(s.names.length:Int)<=1000:=by have:=RBs.out.names.1;omega
 have n4:(s.nums.length:Int)<=1000:=by have:=RBs.out.nums.1;omega
 have HTX:Hid (r.texts.length<=1000/\s.texts.length<=1000):=⟨RBr.out.texts,RBs.out.texts⟩;have n5:(r.texts.length:Int)<=1000:=by have:=HTX.out;omega
 have n6:(s.texts.length:Int)<=1000:=by have:=HTX.out;omega
 obtain⟨Wb,hWb⟩:=Zq ((w.alloc (.cells #[.int .i64 r.type,.slice p1 r.names.length q1,.slice p2 r.nums.length q2,.slice p3 r.texts.length q3,.slice p4 r.raw.length q4] 117)).alloc (.cells #[.int .i64 s.type,.slice r1 s.names.length t1,.slice r2 s.nums.length t2,.slice r3 s.texts.length t3,.slice r4 s.raw.length t4] 117));have HB:Hid (Below w.heap.size w Wb):=by show Below _ _ _;rw[<-hWb];exact (Zr).alloc (by simp) _
 have HA0:Hid (Blk w.heap.size #[.int .i64 r.type,.slice p1 r.names.length q1,.slice p2 r.nums.length q2,.slice p3 r.texts.length q3,.slice p4 r.raw.length q4] 117 Wb):=by show Blk _ _ _ _;rw[<-hWb];exact (Blk.new w _ _).alloc _
 have HB0:Hid (Blk (w.heap.size+1) #[.int .i64 s.type,.slice r1 s.names.length t1,.slice r2 s.nums.length t2,.slice r3 s.texts.length t3,.slice r4 s.raw.length t4] 117 Wb):=by
  show Blk _ _ _ _;have:=Blk.new (w.alloc (.cells #[.int .i64 r.type,.slice p1 r.names.length q1,.slice p2 r.nums.length q2,.slice p3 r.texts.length q3,.slice p4 r.raw.length q4] 117)) #[.int .i64 s.type,.slice r1 s.names.length t1,.slice r2 s.nums.length t2,.slice r3 s.texts.length t3,.slice r4 s.raw.length t4] 117
  rw[World.size_alloc] at this;rw[<-hWb];exact this
 have hca:=conv_bt (e4.out.below HB.out);have hcb:=conv_bt (f4.out.below HB.out);have a0:Wb.cell? ⟨w.heap.size,0,none⟩=some (.int .i64 r.type):=HA0.out.cell 0;have a1:Wb.cell? ⟨w.heap.size,1,none⟩=some (.slice p1 r.names.length q1):=HA0.out.cell 1;have a2:Wb.cell? ⟨w.heap.size,2,none⟩=some (.slice p2 r.nums.length q2):=HA0.out.cell 2;have a3:Wb.cell? ⟨w.heap.size,3,none⟩=some (.slice p3 r.texts.length q3):=HA0.out.cell 3;have a4:Wb.cell? ⟨w.heap.size,4,none⟩=some (.slice p4 r.raw.length q4):=HA0.out.cell 4;have b0:Wb.cell? ⟨w.heap.size+1,0,none⟩=some (.int .i64 s.type):=HB0.out.cell 0;have b1:Wb.cell? ⟨w.heap.size+1,1,none⟩=some (.slice r1 s.names.length t1):=HB0.out.cell 1;have b2:Wb.cell? ⟨w.heap.size+1,2,none⟩=some (.slice r2 s.nums.length t2):=HB0.out.cell 2;have b3:Wb.cell? ⟨w.heap.size+1,3,none⟩=some (.slice r3 s.texts.length t3):=HB0.out.cell 3;have b4:Wb.cell? ⟨w.heap.size+1,4,none⟩=some (.slice r4 s.raw.length t4):=HB0.out.cell 4;by_cases ct:r.type=s.type
 case neg =>
  have g1:(r.type != s.type)=true:=by simpa using ct
  have g2:decide (r.type=s.type)=false:=by simpa using ct
  refine (zF (n:=0)).1 ?_;refine callsIn_of_wp Tryz.func43 rfl trivial ?_ rfl;simp only[Tryz.ntmps43,Zo,Ze,Zg,Nat.reduceAdd,Nat.reduceSub,Zi,Zj,Zk,Zl,Zm,Zp];gi_wp2_with fail
  go_ret
  exact⟨_,rfl,HB.out⟩
 case pos =>
 rw[<-ct] at hWb HB0 b0 ⊢;clear ct;by_cases cn:r.names.length=s.names.length
 case neg =>
  have g1:((r.names.length:Int) != (s.names.length:Int))=true:=by simp;omega
  have g2:decide ((r.names.length:Int)=(s.names.length:Int))=false:=by simp;omega
  have g3:decide (r.names.length=s.names.length)=false:=by simp;omega
  refine (zF (n:=0)).1 ?_;refine callsIn_of_wp Tryz.func43 rfl trivial ?_ rfl;simp only[Tryz.ntmps43,Zo,Ze,Zg,Nat.reduceAdd,Nat.reduceSub,Zi,Zj,Zk,Zl,Zm,Zp];gi_wp2_with fail
  go_ret
  exact⟨_,rfl,HB.out⟩
 case pos =>
 rw[<-cn] at hWb HB0 b1 ⊢;have CN:=Hd cn;clear cn;by_cases cm:r.nums.length=s.nums.length
 case neg =>
  have g1:((r.nums.length:Int) != (s.nums.length:Int))=true:=by simp;omega
  have g2:decide ((r.nums.length:Int)=(s.nums.length:Int))=false:=by simp;omega
  have g3:decide (r.nums.length=s.nums.length)=false:=by simp;omega
  refine (zF (n:=0)).1 ?_;refine callsIn_of_wp Tryz.func43 rfl trivial ?_ rfl;simp only[Tryz.ntmps43,Zo,Ze,Zg,Nat.reduceAdd,Nat.reduceSub,Zi,Zj,Zk,Zl,Zm,Zp];gi_wp2_with fail
  go_ret
  exact⟨_,rfl,HB.out⟩
 case pos =>
 rw[<-cm] at hWb HB0 b2 ⊢;have CM:=Hd cm;clear cm;by_cases cx:r.texts.length=s.texts.length
 case neg =>
  have g1:((r.texts.length:Int) != (s.texts.length:Int))=true:=by simp;omega
  have g2:decide ((r.texts.length:Int)=(s.texts.length:Int))=false:=by simp;omega
  have g3:decide (r.texts.length=s.texts.length)=false:=by simp;omega
  refine (zF (n:=0)).1 ?_;refine callsIn_of_wp Tryz.func43 rfl trivial ?_ rfl;simp only[Tryz.ntmps43,Zo,Ze,Zg,Nat.reduceAdd,Nat.reduceSub,Zi,Zj,Zk,Zl,Zm,Zp];gi_wp2_with fail
  go_ret
  exact⟨_,rfl,HB.out⟩
 case pos =>
 rw[<-cx] at hWb HB0 b3 ⊢;have CX:=Hd cx;clear cx;by_cases cr:r.raw=s.raw
 case neg =>
  have g1:(r.raw == s.raw)=false:=by simpa using cr
  have g2:decide (r.raw=s.raw)=false:=by simpa using cr
  have g3:(r.raw.toArray == s.raw.toArray)=false:=by simpa using cr
  refine (zF (n:=0)).1 ?_;refine callsIn_of_wp Tryz.func43 rfl trivial ?_ rfl;simp only[Tryz.ntmps43,Zo,Ze,Zg,Nat.reduceAdd,Nat.reduceSub,Zi,Zj,Zk,Zl,Zm,Zp];gi_wp2_with fail
  go_ret
  exact⟨_,rfl,HB.out⟩
 case pos =>
 rw[<-cr] at hWb HB0 b4 f4 hcb ⊢;clear cr;have B2:Hid (Sl (.slice r2 r.nums.length t2) (numC s.nums) w):=by rw[CM.out];exact B2.out
 refine (zF (n:=0)).1 ?_;refine callsIn_of_wp Tryz.func43 rfl trivial ?_ rfl;simp only[Tryz.ntmps43,Zo,Ze,Zg,Nat.reduceAdd,Nat.reduceSub,Zi,Zj,Zk,Zl,Zm,Zp];gi_wp2_with fail
 clear a0 a1 a2 a3 a4 b0 b1 b2 b3 b4 hca hcb;have RN:Hid (r.names.length<=1000/\r.nums.length<=1000):=⟨RBr.out.names.1,RBr.out.nums.1⟩
 gi_loopw [5] (fun vi W=>∃i:Nat,i<=r.names.length/\vi=.int .i64 i/\Below Wb.heap.size Wb W) (fun vi _=>r.names.length-(intOf vi).toNat)
 case atStart=>exact⟨0,Nat.zero_le _,rfl,Below.refl _ _⟩
 case round =>
  obtain⟨i,hi,rfl,hb⟩:=hrel;have HBW:=Hd hb;have HAW:=Hd (HA0.out.below hb);have HCW:=Hd (HB0.out.below hb);have hn1:(r.names.length:Int)<=1000:=by have:=RN.out;omega
  have hn2:(r.nums.length:Int)<=1000:=by have:=RN.out;omega
  have a0:wr.cell? ⟨w.heap.size,0,none⟩=some (.int .i64 r.type):=HAW.out.cell 0;have a1:wr.cell? ⟨w.heap.size,1,none⟩=some (.slice p1 r.names.length q1):=HAW.out.cell 1;have a2:wr.cell? ⟨w.heap.size,2,none⟩=some (.slice p2 r.nums.length q2):=HAW.out.cell 2;have a3:wr.cell? ⟨w.heap.size,3,none⟩=some (.slice p3 r.texts.length q3):=HAW.out.cell 3;have a4:wr.cell? ⟨w.heap.size,4,none⟩=some (.slice p4 r.raw.length q4):=HAW.out.cell 4;have b0:wr.cell? ⟨w.heap.size+1,0,none⟩=some (.int .i64 r.type):=HCW.out.cell 0;have b1:wr.cell? ⟨w.heap.size+1,1,none⟩=some (.slice r1 r.names.length t1):=HCW.out.cell 1;have b2:wr.cell? ⟨w.heap.size+1,2,none⟩=some (.slice r2 r.nums.length t2):=HCW.out.cell 2;have b3:wr.cell? ⟨w.heap.size+1,3,none⟩=some (.slice r3 r.texts.length t3):=HCW.out.cell 3;have b4:wr.cell? ⟨w.heap.size+1,4,none⟩=some (.slice r4 r.raw.length t4):=HCW.out.cell 4;clear hb;by_cases hlt:i<r.names.length
  ·have hlz:(i:Int)<(r.names.length:Int):=by omega
   have hwb:=Z5 HB.out HBW.out;have HWB:=Hd hwb;obtain⟨us,u1,u2,u3⟩:=A1.out;obtain⟨vs,v1,v2,v3⟩:=B1.out;obtain⟨ga,rfl,c1⟩:=u2.cells wr hwb i (by omega)
   have hl2:i<s.names.length:=by rw[<-CN.out];exact hlt
   obtain⟨gb,rfl,d1⟩:=v2.cells wr hwb i (by omega)
   have hra:=u3 i (by omega) hlt
   have hrb:=v3 i (by omega) hl2
   obtain⟨ya,hya⟩:=Zq (us[i]'(by omega))
   obtain⟨yb,hyb⟩:=Zq (vs[i]'(by omega))
   rw[hya] at c1 hra;rw[hyb] at d1 hrb;obtain⟨na,ca,rfl,_,_⟩:=hra.form;obtain⟨nb,cb,rfl,_,_⟩:=hrb.form;obtain⟨la,hla⟩:=Zq (r.names[i].length);obtain⟨lb,hlb⟩:=Zq (s.names[i].length);rw[hla] at c1 hra;rw[hlb] at d1 hrb;obtain⟨bq,hbq⟩:=Zq ((r.names[i] == s.names[i]));obtain⟨ea,hea⟩:=Zq (ga.add i);obtain⟨eb,heb⟩:=Zq (gb.add i);rw[hea] at c1;rw[heb] at d1;have HCS:Hid (∀W',Below wr.heap.size wr W'->Cs [(⟨w.heap.size,1,none⟩,Value.slice (some ga) r.names.length q1),(⟨w.heap.size+1,1,none⟩,.slice (some gb) r.names.length t1),(ea,.slice na la ca),(eb,.slice nb lb cb)] W'):=fun W' hW=>⟨(hW.cell (zG a1)).trans a1,(hW.cell (zG b1)).trans b1,(hW.cell (zG c1)).trans c1,(hW.cell (zG d1)).trans d1,trivial⟩
   have HIS:Hid (∀W',Below wr.heap.size wr W'->Calls Tryz.prog 42 #[.slice na la ca,.slice nb lb cb] W' (Gives (.bool bq) W')):=fun W' hW=>by
    have:=is_any _ _ r.names[i] s.names[i] W' (hra.below (Z5 hwb hW)) (hrb.below (Z5 hwb hW)) (RBr.out.names.2 _ (List.getElem_mem _)) (RBs.out.names.2 _ (List.getElem_mem _))
    rw[hbq] at this;exact this
   clear hwb u1 u2 u3 v1 v2 v3 c1 d1 hra hrb hya hyb hla hlb hbq;gi_wp2_with fail
   clear a0 a1 a2 a3 a4 b0 b1 b2 b3 b4;refine Z8 (List.range 12) (Cs [(⟨w.heap.size,1,none⟩,Value.slice (some ga) r.names.length q1),(⟨w.heap.size+1,1,none⟩,.slice (some gb) r.names.length t1),(ea,.slice na la ca),(eb,.slice nb lb cb)]) 12 rfl (by kernel_rfl) ?_
   intro wa hwa;have HWA:Hid (Below wr.heap.size wr wa):=by subst hwa;exact (Below.refl wr.heap.size wr).drew
   have hS:=HCS.out wa HWA.out;clear hwa;refine tA 0 hS ?_;refine tA 1 hS ?_;refine tA 2 hS ?_;refine tA 3 hS ?_;refine tA 4 hS ?_;refine tA 5 hS ?_;refine tA 6 hS ?_;refine tA 7 hS ?_;simp only[Act.put,Za,Zd,Zc];refine tA 8 hS ?_;refine tA 9 hS ?_;simp only[Act.put,Za,Zd,Zc];refine oneH 10 (by rfl) (by kernel_rfl) (fun K hK=>?_)
   gi_wp2_with (gi_at_call 42;refine (callsIn_wide.2 (HIS.out wa HWA.out)).mono ?_;rintro e9 wb ⟨rfl,b9⟩)
   have HWB2:=Hd (Z5 HWA.out b9);replace hS:=HCS.out wb HWB2.out;refine hK _ _ (fun _=>hS) ?_
   clear hK K b9;refine tA 11 hS ?_;simp only[Act.put,Za,Zd,Zc];refine Z9 (by kernel_rfl) ?_
   clear hS;cases bq with
   | false =>
    gi_wp2_with fail
    go_ret
    exact⟨_,rfl,Z5 HB.out (Z5 HBW.out HWB2.out)⟩
   | true =>
   gi_wp2_with fail
   exact⟨⟨i+1,hlt,by go_num,Z5 HBW.out HWB2.out⟩,by simp[intOf]<;>omega⟩
  ·have hlz:¬((i:Int)<(r.names.length:Int)):=by omega
   gi_wp2_with fail
   clear a0 a1 a2 a3 a4 b0 b1 b2 b3 b4;have HBW0:=HBW;generalize wr=wo at *
   gi_loopw [6] (fun vi W=>∃j:Nat,j<=r.nums.length/\vi=.int .i64 j/\Below wo.heap.size wo W) (fun vi _=>r.nums.length-(intOf vi).toNat)
   case atStart=>exact⟨0,Nat.zero_le _,rfl,Below.refl _ _⟩
   case round =>
    obtain⟨j,hj,rfl,hb⟩:=hrel;have HBJ:=Hd (Z5 HBW0.out hb);have HAJ:=Hd (HAW.out.below hb);have HCJ:=Hd (HCW.out.below hb);have HBO:=Hd hb;have a0:wr.cell? ⟨w.heap.size,0,none⟩=some (.int .i64 r.type):=HAJ.out.cell 0;have a1:wr.cell? ⟨w.heap.size,1,none⟩=some (.slice p1 r.names.length q1):=HAJ.out.cell 1;have a2:wr.cell? ⟨w.heap.size,2,none⟩=some (.slice p2 r.nums.length q2):=HAJ.out.cell 2;have a3:wr.cell? ⟨w.heap.size,3,none⟩=some (.slice p3 r.texts.length q3):=HAJ.out.cell 3;have a4:wr.cell? ⟨w.heap.size,4,none⟩=some (.slice p4 r.raw.length q4):=HAJ.out.cell 4;have b0:wr.cell? ⟨w.heap.size+1,0,none⟩=some (.int .i64 r.type):=HCJ.out.cell 0;have b1:wr.cell? ⟨w.heap.size+1,1,none⟩=some (.slice r1 r.names.length t1):=HCJ.out.cell 1;have b2:wr.cell? ⟨w.heap.size+1,2,none⟩=some (.slice r2 r.nums.length t2):=HCJ.out.cell 2;have b3:wr.cell? ⟨w.heap.size+1,3,none⟩=some (.slice r3 r.texts.length t3):=HCJ.out.cell 3;have b4:wr.cell? ⟨w.heap.size+1,4,none⟩=some (.slice r4 r.raw.length t4):=HCJ.out.cell 4;clear hb;by_cases hlt2:j<r.nums.length
    ·have hlz2:(j:Int)<(r.nums.length:Int):=by omega
     have hwb:=Z5 HB.out HBJ.out;have hnl:(numC r.nums).length=r.nums.length:=by unfold numC;simp
     have hnl':(numC s.nums).length=r.nums.length:=by unfold numC;simp[CM.out]
     have hlt3:j<s.nums.length:=by rw[<-CM.out];exact hlt2
     obtain⟨ga,rfl,c1⟩:=A2.out.cells wr hwb j (by rw[hnl];exact hlt2)
     obtain⟨gb,rfl,d1⟩:=B2.out.cells wr hwb j (by rw[hnl'];exact hlt2)
     obtain⟨y,hy⟩:=Zq (r.nums[j]);have hny:∀h,(numC r.nums)[j]'h=.int .u32 (y:Int):=fun h=>by simp only[numC,List.getElem_map,hy]
     obtain⟨y',hy'⟩:∃y,s.nums[j]=y:=⟨_,rfl⟩;have hny':∀h,(numC s.nums)[j]'h=.int .u32 (y':Int):=fun h=>by simp only[numC,List.getElem_map,hy']
     rw[hny] at c1;rw[hny'] at d1;obtain⟨ea,hea⟩:=Zq (ga.add j);obtain⟨eb,heb⟩:=Zq (gb.add j);rw[hea] at c1;rw[heb] at d1;have HCS:Hid (∀W',Below wr.heap.size wr W'->Cs [(⟨w.heap.size,2,none⟩,Value.slice (some ga) r.nums.length q2),(⟨w.heap.size+1,2,none⟩,.slice (some gb) r.nums.length t2),(ea,.int .u32 (y:Int)),(eb,.int .u32 (y':Int))] W'):=fun W' hW=>⟨(hW.cell (zG a2)).trans a2,(hW.cell (zG b2)).trans b2,(hW.cell (zG c1)).trans c1,(hW.cell (zG d1)).trans d1,trivial⟩
     clear hwb hnl hnl' hny hny' hlt3 hy hy' c1 d1;gi_wp2_with fail
     clear a0 a1 a2 a3 a4 b0 b1 b2 b3 b4;refine Z8 (List.range 11) (Cs [(⟨w.heap.size,2,none⟩,Value.slice (some ga) r.nums.length q2),(⟨w.heap.size+1,2,none⟩,.slice (some gb) r.nums.length t2),(ea,.int .u32 (y:Int)),(eb,.int .u32 (y':Int))]) 11 rfl (by kernel_rfl) ?_
     intro wa hwa;have HWA:Hid (Below wr.heap.size wr wa):=by subst hwa;exact (Below.refl wr.heap.size wr).drew
     have hS:=HCS.out wa HWA.out;clear hwa;refine tA 0 hS ?_;refine tA 1 hS ?_;refine tA 2 hS ?_;refine tA 3 hS ?_;refine tA 4 hS ?_;refine tA 5 hS ?_;refine tA 6 hS ?_;refine tA 7 hS ?_;simp only[Act.put,Za,Zd,Zc];refine tA 8 hS ?_;refine tA 9 hS ?_;refine tA 10 hS ?_;simp only[Act.put,Za,Zd,Zc];refine Z9 (by kernel_rfl) ?_
     clear hS;by_cases hyy:y=y'
     case neg =>
      have g1:((y:Int) != (y':Int))=true:=by simp;omega
      have g2:decide ((y:Int)=(y':Int))=false:=by simp;omega
      have g3:decide (y=y')=false:=by simpa using hyy
      gi_wp2_with fail
      go_ret
      exact⟨_,rfl,Z5 HB.out (Z5 HBJ.out HWA.out)⟩
     case pos =>
     subst hyy;gi_wp2_with fail
     exact⟨⟨j+1,hlt2,by go_num,Z5 HBO.out HWA.out⟩,by simp[intOf]<;>omega⟩
    ·have hlz2:¬((j:Int)<(r.nums.length:Int)):=by omega
     have HIS:=Hd (isLen_any _ _ r.texts s.texts wr (A3.out.below (Z5 HB.out HBJ.out)) (B3.out.below (Z5 HB.out HBJ.out)) RBr.out.texts RBs.out.texts);obtain⟨bt,hbt⟩:=Zq ((r.texts == s.texts));rw[hbt] at HIS;have HIS:=Hd (show Calls _ _ #[.slice p3 r.texts.length q3,.slice r3 r.texts.length t3] _ _ by have h:=HIS.out;rw[<-CX.out] at h;exact h)
     clear hbt;gi_wp2_with (gi_at_call 42;refine (callsIn_wide.2 HIS.out).mono ?_;rintro e9 wb ⟨rfl,b9⟩)
     go_ret
     exact⟨_,rfl,Z5 (Z5 HB.out HBJ.out) b9⟩
set_option maxHeartbeats 4000000 in
theorem is5B_any {w w0:World} (v u:Value) (k k':List (El w)) (hb0:Below w.heap.size w w0) (hv:RecsRd v (k.map (·.1)) w0) (hu:RecsRd u (k'.map (·.1)) w0) (nk:k.length<=1000) (nk':k'.length<=1000) :
  Calls Tryz.prog 18 #[v,u] w0 (SomeB w0):=by
 obtain⟨ov,cv,rfl⟩:∃o cap,v=.slice o k.length cap:=by obtain⟨_,o,cap,h,_⟩:=hv;exact⟨o,cap,by rw[h,Zf]⟩
 obtain⟨ou,cu,rfl⟩:∃o cap,u=.slice o k'.length cap:=by obtain⟨_,o,cap,h,_⟩:=hu;exact⟨o,cap,by rw[h,Zf]⟩
 have HV:=Hd hv.el;have HU:=Hd hu.el;have HB0:=Hd hb0;have lz:(k.length:Int)<=1000:=by omega
 have lz':(k'.length:Int)<=1000:=by omega
 clear hv hu hb0;by_cases hlen:k'.length=k.length
 case neg =>
  have g1:((k.length:Int) != (k'.length:Int))=true:=by simp;omega
  have g2:decide ((k.length:Int)=(k'.length:Int))=false:=by simp;omega
  have g3:decide (k.length=k'.length)=false:=by simp;omega
  refine (zF (n:=0)).1 ?_;refine callsIn_of_wp Tryz.func18 rfl trivial ?_ rfl;simp only[Tryz.ntmps18,Zo,Ze,Zg,Nat.reduceAdd,Nat.reduceSub,Zi,Zj,Zk,Zl,Zm,Zp];gi_wp2_with fail
  go_ret
  exact⟨_,rfl,Below.refl _ _⟩
 case pos =>
 have HLN:=Hd hlen;rw[hlen];clear hlen;refine (zF (n:=0)).1 ?_;refine callsIn_of_wp Tryz.func18 rfl trivial ?_ rfl;simp only[Tryz.ntmps18,Zo,Ze,Zg,Nat.reduceAdd,Nat.reduceSub,Zi,Zj,Zk,Zl,Zm,Zp];gi_wp2_with fail
 gi_loopw [5] (fun vi W=>∃i:Nat,i<=k.length/\vi=.int .i64 i/\Below w0.heap.size w0 W) (fun vi _=>k.length-(intOf vi).toNat)
 case atStart=>exact⟨0,Nat.zero_le _,rfl,Below.refl _ _⟩
 case round =>
  obtain⟨i,hi,rfl,hb⟩:=hrel;have HB:=Hd hb;by_cases hlt:i<k.length
  ·have hlz:(i:Int)<(k.length:Int):=by omega
   have hlt':i<k'.length:=by rw[HLN.out];exact hlt
   obtain⟨x,hx⟩:=Zq (k[i]);obtain⟨y,hy⟩:=Zq (k'[i]);obtain⟨p0,n0,q0,p1,n1,q1,p2,n2,q2,p3,n3,q3,p4,n4,q4,ex⟩:=x.cells;obtain⟨r0,m0,t0,r1,m1,t1,r2,m2,t2,r3,m3,t3,r4,m4,t4,ey⟩:=y.cells;have hxr:RecRd [.slice p0 n0 q0,.int .u32 (x.1.2.ttl:Int),.int .i64 x.1.2.type,.slice p1 n1 q1,.slice p2 n2 q2,.slice p3 n3 q3,.slice p4 n4 q4] x.1.2 w:=by have h:=x.2.1;rw[show x.1.1=_ from ex] at h;exact h
   have hyr:RecRd [.slice r0 m0 t0,.int .u32 (y.1.2.ttl:Int),.int .i64 y.1.2.type,.slice r1 m1 t1,.slice r2 m2 t2,.slice r3 m3 t3,.slice r4 m4 t4] y.1.2 w:=by have h:=y.2.1;rw[show y.1.1=_ from ey] at h;exact h
   obtain⟨ga,rfl,_⟩:=HV.out _ hb i hlt _ _ _ _ _ _ _ (by rw[hx];exact ex)
   obtain⟨gb,rfl,_⟩:=HU.out _ hb i hlt' _ _ _ _ _ _ _ (by rw[hy];exact ey)
   obtain⟨ea,hea⟩:=Zq (ga.add (i*7));obtain⟨eb,heb⟩:=Zq (gb.add (i*7));have HCS:Hid (∀W',Below w0.heap.size w0 W'->Cs [(ea,Value.slice p0 n0 q0),(⟨ea.block,ea.off+1,none⟩,.int .u32 (x.1.2.ttl:Int)),(⟨ea.block,ea.off+2,none⟩,.int .i64 x.1.2.type),(⟨ea.block,ea.off+3,none⟩,.slice p1 n1 q1),(⟨ea.block,ea.off+4,none⟩,.slice p2 n2 q2),(⟨ea.block,ea.off+5,none⟩,.slice p3 n3 q3),(⟨ea.block,ea.off+6,none⟩,.slice p4 n4 q4),(eb,.slice r0 m0 t0),(⟨eb.block,eb.off+1,none⟩,.int .u32 (y.1.2.ttl:Int)),(⟨eb.block,eb.off+2,none⟩,.int .i64 y.1.2.type),(⟨eb.block,eb.off+3,none⟩,.slice r1 m1 t1),(⟨eb.block,eb.off+4,none⟩,.slice r2 m2 t2),(⟨eb.block,eb.off+5,none⟩,.slice r3 m3 t3),(⟨eb.block,eb.off+6,none⟩,.slice r4 m4 t4)] W'):=fun W' hW=>by
    obtain⟨a,ha,c0,c1,c2,c3,c4,c5,c6⟩:=HV.out _ hW i hlt _ _ _ _ _ _ _ (by rw[hx];exact ex)
    obtain⟨b,hb,d0,d1,d2,d3,d4,d5,d6⟩:=HU.out _ hW i hlt' _ _ _ _ _ _ _ (by rw[hy];exact ey)
    cases ha;cases hb;rw[hea] at c0 c1 c2 c3 c4 c5 c6;rw[heb] at d0 d1 d2 d3 d4 d5 d6;exact⟨c0,c1,c2,c3,c4,c5,c6,d0,d1,d2,d3,d4,d5,d6,trivial⟩
   obtain⟨bq,hbq⟩:=Zq ((x.1.2.owner == y.1.2.owner));have HIS:Hid (∀W',Below w0.heap.size w0 W'->Calls Tryz.prog 42 #[.slice p0 n0 q0,.slice r0 m0 t0] W' (Gives (.bool bq) W')):=fun W' hW=>by
    obtain⟨vo,ds,h1,h2,_⟩:=hxr;obtain⟨vo',ds',h1',h2',_⟩:=hyr;cases h1;cases h1';have:=isLen_any _ _ _ _ W' (h2.below (Z5 HB0.out hW)) (h2'.below (Z5 HB0.out hW)) x.2.2.owner.1 y.2.2.owner.1
    rw[hbq] at this;exact this
   have HID:Hid (∀W',Below w0.heap.size w0 W'->Calls Tryz.prog 43 #[.agg #[.int .i64 x.1.2.type,.slice p1 n1 q1,.slice p2 n2 q2,.slice p3 n3 q3,.slice p4 n4 q4],.agg #[.int .i64 y.1.2.type,.slice r1 m1 t1,.slice r2 m2 t2,.slice r3 m3 t3,.slice r4 m4 t4]] W' (SomeB W')):=fun W' hW=>by
    obtain⟨vo,ds,h1,_,h3⟩:=hxr;obtain⟨vo',ds',h1',_,h3'⟩:=hyr;cases h1;cases h1';exact lawIsB_any [.int .i64 x.1.2.type,.slice p1 n1 q1,.slice p2 n2 q2,.slice p3 n3 q3,.slice p4 n4 q4] [.int .i64 y.1.2.type,.slice r1 m1 t1,.slice r2 m2 t2,.slice r3 m3 t3,.slice r4 m4 t4] x.1.2 y.1.2 W' (h3.below (Z5 HB0.out hW)) (h3'.below (Z5 HB0.out hW)) x.2.2 y.2.2
   obtain⟨nt,hnt⟩:=Zq x.1.2.ttl;obtain⟨ny,hny⟩:=Zq x.1.2.type;obtain⟨nt',hnt'⟩:∃nt,y.1.2.ttl=nt:=⟨_,rfl⟩;obtain⟨ny',hny'⟩:∃ny,y.1.2.type=ny:=⟨_,rfl⟩;rw[hnt,hny,hnt',hny'] at HCS;rw[hny,hny'] at HID;clear hb hx hy ex ey hxr hyr hnt hny hnt' hny' hbq;gi_wp2_with fail
   refine Z8 (List.range 39) (Cs [(ea,Value.slice p0 n0 q0),(⟨ea.block,ea.off+1,none⟩,.int .u32 (nt:Int)),(⟨ea.block,ea.off+2,none⟩,.int .i64 ny),(⟨ea.block,ea.off+3,none⟩,.slice p1 n1 q1),(⟨ea.block,ea.off+4,none⟩,.slice p2 n2 q2),(⟨ea.block,ea.off+5,none⟩,.slice p3 n3 q3),(⟨ea.block,ea.off+6,none⟩,.slice p4 n4 q4),(eb,.slice r0 m0 t0),(⟨eb.block,eb.off+1,none⟩,.int .u32 (nt':Int)),(⟨eb.block,eb.off+2,none⟩,.int .i64 ny'),(⟨eb.block,eb.off+3,none⟩,.slice r1 m1 t1),(⟨eb.block,eb.off+4,none⟩,.slice r2 m2 t2),(⟨eb.block,eb.off+5,none⟩,.slice r3 m3 t3),(⟨eb.block,eb.off+6,none⟩,.slice r4 m4 t4)]) 39 rfl (by kernel_rfl) ?_
   intro wa hwa;have HWA:Hid (Below w0.heap.size w0 wa):=by subst hwa;exact HB.out.drew
   have hS:=HCS.out wa HWA.out;clear hwa;refine tA 0 hS ?_;refine tA 1 hS ?_;refine tA 2 hS ?_;refine tA 3 hS ?_;refine tA 4 hS ?_;refine tA 5 hS ?_;refine tA 6 hS ?_;refine tA 7 hS ?_;refine tA 8 hS ?_;refine tA 9 hS ?_;simp only[Act.put,Za,Zd,Zc];refine oneH 10 (by rfl) (by kernel_rfl) (fun K hK=>?_)
   gi_wp2_with (gi_at_call 42;refine (callsIn_wide.2 (HIS.out wa HWA.out)).mono ?_;rintro e9 wb ⟨rfl,b9⟩)
   have HWB:=Hd (Z5 HWA.out b9);replace hS:=HCS.out wb HWB.out;refine hK _ _ (fun _=>hS) ?_
   clear hK K b9;cases bq with
   | false =>
    refine tA 11 hS ?_;refine tA 12 hS ?_;simp only[Act.put,Za,Zd,Zc];refine tU 13 hS ?_;refine tU 14 hS ?_;refine tU 15 hS ?_;refine tU 16 hS ?_;refine tU 17 hS ?_;refine tU 18 hS ?_;refine tU 19 hS ?_;refine tU 20 hS ?_;refine tU 21 hS ?_;refine tU 22 hS ?_;refine tU 23 hS ?_;refine tA 24 hS ?_;refine tA 25 hS ?_;simp only[Act.put,Za,Zd,Zc];refine tU 26 hS ?_;refine tU 27 hS ?_;refine tU 28 hS ?_;refine tU 29 hS ?_;refine tU 30 hS ?_;refine tU 31 hS ?_;refine tU 32 hS ?_;refine tU 33 hS ?_;refine tU 34 hS ?_;refine tU 35 hS ?_;refine tU 36 hS ?_;refine tU 37 hS ?_;refine tA 38 hS ?_;simp only[Act.put,Za,Zd,Zc];refine Z9 (by kernel_rfl) ?_
    clear hS;gi_wp2_with fail
    go_ret
    exact⟨_,rfl,HWB.out⟩
   | true =>
   refine tA 11 hS ?_;refine tA 12 hS ?_;refine tA 13 hS ?_;refine tA 14 hS ?_;refine tA 15 hS ?_;refine tA 16 hS ?_;refine tA 17 hS ?_;refine tA 18 hS ?_;refine tA 19 hS ?_;refine tA 20 hS ?_;refine tA 21 hS ?_;refine tA 22 hS ?_;simp only[Act.put,Za,Zd,Zc];by_cases htt:nt=nt'
   case neg =>
    have g1:((nt:Int) != (nt':Int))=true:=by simp;omega
    have g2:decide ((nt:Int)=(nt':Int))=false:=by simp;omega
    have g3:decide (nt=nt')=false:=by simpa using htt
    refine tA 23 hS ?_;refine tA 24 hS ?_;refine tA 25 hS ?_;simp only[Act.put,Za,Zd,Zc];refine tU 26 hS ?_;refine tU 27 hS ?_;refine tU 28 hS ?_;refine tU 29 hS ?_;refine tU 30 hS ?_;refine tU 31 hS ?_;refine tU 32 hS ?_;refine tU 33 hS ?_;refine tU 34 hS ?_;refine tU 35 hS ?_;refine tU 36 hS ?_;refine tU 37 hS ?_;refine tA 38 hS ?_;simp only[Act.put,Za,Zd,Zc];refine Z9 (by kernel_rfl) ?_
    clear hS;gi_wp2_with fail
    go_ret
    exact⟨_,rfl,HWB.out⟩
   case pos =>
   subst htt;refine tA 23 hS ?_;refine tA 24 hS ?_;refine tA 25 hS ?_;refine tA 26 hS ?_;refine tA 27 hS ?_;refine tA 28 hS ?_;refine tA 29 hS ?_;refine tA 30 hS ?_;refine tA 31 hS ?_;refine tA 32 hS ?_;refine tA 33 hS ?_;refine tA 34 hS ?_;refine tA 35 hS ?_;simp only[Act.put,Za,Zd,Zc];refine oneH 36 (by rfl) (by kernel_rfl) (fun K hK=>?_)
   gi_wp2_with (gi_at_call 43;refine (callsIn_wide.2 (HID.out wb HWB.out)).mono ?_;rintro e9 wc ⟨bd,rfl,b9⟩)
   have HWC:=Hd (Z5 HWB.out b9);replace hS:=HCS.out wc HWC.out;refine hK _ _ (fun _=>hS) ?_
   clear hK K b9;refine tA 37 hS ?_;refine tA 38 hS ?_;simp only[Act.put,Za,Zd,Zc];refine Z9 (by kernel_rfl) ?_
   clear hS;cases bd with
   | false =>
    gi_wp2_with fail
    go_ret
    exact⟨_,rfl,HWC.out⟩
   | true =>
   gi_wp2_with fail
   exact⟨⟨i+1,hlt,by go_num,HWC.out⟩,by simp[intOf]<;>omega⟩
  ·have hlz:¬((i:Int)<(k.length:Int)):=by omega
   clear hb;gi_wp2_with fail
   go_ret
   exact⟨_,rfl,HB.out⟩
end Go.Proofs.YtgmbefolgppmdaaGreat
