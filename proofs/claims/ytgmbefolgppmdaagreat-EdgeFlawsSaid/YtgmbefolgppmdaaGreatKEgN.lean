/- The document's AddEdge. -/
import Derived.Test.YtgmbefolgppmdaaGreatKEgQ
import Derived.Test.YtgmbefolgppmdaaGreatKReg
import Derived.Test.YtgmbefolgppmdaaGreatKAli
namespace Go.Proofs.YtgmbefolgppmdaaGreat
open Go.RowKit Go.Shelf Go.Sort
set_option maxRecDepth 100000
set_option maxHeartbeats 8000000 in
theorem rAddEdge_any {w w0:World} (v:Value) (l:List (ElG w)) (x:ElG w) (hb0:Below w.heap.size w w0) (hv:GRd 5 v (l.map encG) w0) (na:l.length<=50000) :
  Calls Tryz.prog 63 #[v,.agg (encG x).toArray] w0 (REdgR l x w0):=by
 obtain⟨ov,cv,e0,hlc,hcm,hno,_⟩:=id hv;rw[Zf] at e0 hlc;subst e0;obtain⟨p0,n0,q0,p1,n1,q1,p2,n2,q2,ex⟩:=x.cells;rw[ex];obtain⟨W1,hW1⟩:=Zq (w0.alloc (.cells #[.int .i64 x.1.2.kind,.slice p0 n0 q0,.slice p1 n1 q1,.slice p2 n2 q2,.int .i64 x.1.2.server] 78));have HB1:Hid (Below w0.heap.size w0 W1):=by show Below _ _ _;rw[<-hW1];exact Zr
 have HBK:Hid (Blk w0.heap.size #[.int .i64 x.1.2.kind,.slice p0 n0 q0,.slice p1 n1 q1,.slice p2 n2 q2,.int .i64 x.1.2.server] 78 W1):=by show Blk _ _ _ _;rw[<-hW1];exact Blk.new w0 _ _
 have HCX:Hid (∀W',Below W1.heap.size W1 W'->Cs [(⟨w0.heap.size,0,none⟩,.int .i64 x.1.2.kind),(⟨w0.heap.size,1,none⟩,.slice p0 n0 q0),(⟨w0.heap.size,2,none⟩,.slice p1 n1 q1),(⟨w0.heap.size,3,none⟩,.slice p2 n2 q2),(⟨w0.heap.size,4,none⟩,.int .i64 x.1.2.server)] W'):=fun W' hW=>⟨(HBK.out.below hW).cell 0,(HBK.out.below hW).cell 1,(HBK.out.below hW).cell 2,(HBK.out.below hW).cell 3,(HBK.out.below hW).cell 4,trivial⟩
 have hxr:EgRd [.int .i64 x.1.2.kind,.slice p0 n0 q0,.slice p1 n1 q1,.slice p2 n2 q2,.int .i64 x.1.2.server] x.1.2 w:=by have h:=x.2.1;rw[show x.1.1=_ from ex] at h;exact h
 have HCMP:Hid (∀(y:ElG w) (cs:List Value),encG y=cs->∀W',Below W1.heap.size W1 W'->Calls Tryz.prog 90 #[.agg cs.toArray,.agg #[.int .i64 x.1.2.kind,.slice p0 n0 q0,.slice p1 n1 q1,.slice p2 n2 q2,.int .i64 x.1.2.server]] W' (Gives (.int .i64 (Eg.cmp y.1.2 x.1.2)) W')):=fun y cs hy W' hW=>by
  have hyr:EgRd cs y.1.2 w:=by have h:=y.2.1;rw[show y.1.1=_ from hy] at h;exact h
  exact refCompareEdge_any cs [.int .i64 x.1.2.kind,.slice p0 n0 q0,.slice p1 n1 q1,.slice p2 n2 q2,.int .i64 x.1.2.server] y.1.2 x.1.2 W' (hyr.below (Z5 hb0 (Z5 HB1.out hW))) (hxr.below (Z5 hb0 (Z5 HB1.out hW))) y.2.2 x.2.2
 have HV:=Hd hv;have HEX:=Hd ex;have HNO:=Hd hno;have HCM:=Hd hcm;have HW1:=Hd hW1;have lz:(l.length:Int)<=50000:=by omega
 clear hv hb0 hxr ex hno hcm hW1;refine (zF (n:=0)).1 ?_;refine callsIn_of_wp Tryz.func63 rfl trivial ?_ rfl;simp only[Tryz.ntmps63,Zo,Ze,Zg,Nat.reduceAdd,Nat.reduceSub,Zi,Zj,Zk,Zl,Zm,Zp];gi_wp2_with fail
 rw[HW1.out];clear HW1
 gi_loopw [5] (fun vi W=>∃k:Nat,k<=l.length/\vi=.int .i64 k/\Hid (∀j (hj:j<l.length),j<k->Eg.cmp l[j].1.2 x.1.2<0)/\Below W1.heap.size W1 W) (fun vi _=>l.length-(intOf vi).toNat)
 case atStart=>exact⟨0,Nat.zero_le _,rfl,fun j _ h=>by omega,Below.refl _ _⟩
 case round =>
  obtain⟨k,hk,rfl,HF,hb⟩:=hrel;have HB:=Hd hb;clear hb;obtain⟨tk,htk⟩:=Zq ((l.map encG).take k);obtain⟨dk,hdk⟩:=Zq ((l.map encG).drop k);have htl:tk.length=k:=by rw[<-htk,List.length_take,Zf];omega
  have hdl:dk.length=l.length-k:=by rw[<-hdk,List.length_drop,Zf]
  have HTL:=Hd htl;have HDL:=Hd hdl;obtain⟨ot,hot⟩:=Zq ((if cv=k then ov else ov.map (·.add (k*5))))
  have HT:Hid (∀W',Below W1.heap.size W1 W'->GRd 5 (.slice ov k cv) tk W'):=fun W' hW=>by
   rw[<-htk];exact (HV.out.below (Z5 HB1.out hW)).take k cv hk (by omega) (Zh _) HNO.out
  have HD:Hid (∀W',Below W1.heap.size W1 W'->GRd 5 (.slice ot (l.length-k) (cv-k)) dk W'):=fun W' hW=>by
   rw[<-hot,<-hdk];by_cases hc:cv=k
   ·rw[if_pos hc]
    have h2:=(HV.out.below (Z5 HB1.out hW)).drop0 k hk hc;rw[show cv-k=0 by omega];exact h2
   ·rw[if_neg hc];exact (HV.out.below (Z5 HB1.out hW)).drop k hk
  have HFIN:Hid (tk++[[.int .i64 x.1.2.kind,.slice p0 n0 q0,.slice p1 n1 q1,.slice p2 n2 q2,.int .i64 x.1.2.server]]++dk=(l.take k++x::l.drop k).map encG):=by
   show _=_;rw[<-htk,<-hdk,List.map_append,List.map_cons,HEX.out,List.map_take,List.map_drop];simp
  clear htk hdk htl hdl;by_cases hlt:k<l.length
  ·have hlz:(k:Int)<(l.length:Int):=by omega
   obtain⟨y,hy⟩:=Zq (l[k]);obtain⟨r0,k0,t0,r1,k1,t1,r2,k2,t2,ey⟩:=y.cells;obtain⟨ga,rfl,_⟩:=HV.out.elG5 _ (Below.refl _ _) k hlt _ _ _ _ _ (by rw[hy];exact ey)
   obtain⟨ea,hea⟩:=Zq (ga.add (k*5));have hck:¬cv=k:=by omega
   have hots:ot=some ea:=by rw[<-hot,if_neg hck,<-hea];rfl
   clear hot;subst hots;have HCS:Hid (∀W',Below W1.heap.size W1 W'->Cs [(⟨w0.heap.size,0,none⟩,.int .i64 x.1.2.kind),(⟨w0.heap.size,1,none⟩,.slice p0 n0 q0),(⟨w0.heap.size,2,none⟩,.slice p1 n1 q1),(⟨w0.heap.size,3,none⟩,.slice p2 n2 q2),(⟨w0.heap.size,4,none⟩,.int .i64 x.1.2.server),(ea,.int .i64 y.1.2.kind),(⟨ea.block,ea.off+1,none⟩,.slice r0 k0 t0),(⟨ea.block,ea.off+2,none⟩,.slice r1 k1 t1),(⟨ea.block,ea.off+3,none⟩,.slice r2 k2 t2),(⟨ea.block,ea.off+4,none⟩,.int .i64 y.1.2.server)] W'):=fun W' hW=>by
    obtain⟨a,ha,c0,c1,c2,c3,c4⟩:=HV.out.elG5 _ (Z5 HB1.out hW) k hlt _ _ _ _ _ (by rw[hy];exact ey)
    cases ha;rw[hea] at c0 c1 c2 c3 c4;obtain⟨x0,x1,x2,x3,x4,_⟩:=HCX.out W' hW;exact⟨x0,x1,x2,x3,x4,c0,c1,c2,c3,c4,trivial⟩
   obtain⟨z,hz⟩:=Zq (Eg.cmp y.1.2 x.1.2);have HC2:Hid (∀W',Below W1.heap.size W1 W'->Calls Tryz.prog 90 #[.agg #[.int .i64 y.1.2.kind,.slice r0 k0 t0,.slice r1 k1 t1,.slice r2 k2 t2,.int .i64 y.1.2.server],.agg #[.int .i64 x.1.2.kind,.slice p0 n0 q0,.slice p1 n1 q1,.slice p2 n2 q2,.int .i64 x.1.2.server]] W' (Gives (.int .i64 z) W')):=fun W' hW=>by
    have h:=HCMP.out y _ ey W' hW;rw[hz] at h;exact h
   have HZ:Hid (∀h:k<l.length,Eg.cmp l[k].1.2 x.1.2=z):=fun h=>by rw[hy];exact hz
   clear hy ey hz;gi_wp2_with fail
   refine Z8 (List.range 13) (Cs [(⟨w0.heap.size,0,none⟩,.int .i64 x.1.2.kind),(⟨w0.heap.size,1,none⟩,.slice p0 n0 q0),(⟨w0.heap.size,2,none⟩,.slice p1 n1 q1),(⟨w0.heap.size,3,none⟩,.slice p2 n2 q2),(⟨w0.heap.size,4,none⟩,.int .i64 x.1.2.server),(ea,.int .i64 y.1.2.kind),(⟨ea.block,ea.off+1,none⟩,.slice r0 k0 t0),(⟨ea.block,ea.off+2,none⟩,.slice r1 k1 t1),(⟨ea.block,ea.off+3,none⟩,.slice r2 k2 t2),(⟨ea.block,ea.off+4,none⟩,.int .i64 y.1.2.server)]) 13 rfl (by kernel_rfl) ?_
   intro wa hwwa;have HBA:Hid (Below W1.heap.size W1 wa):=by subst hwwa;exact HB.out.drew
   have hS:=HCS.out wa HBA.out;clear hwwa;refine tA 0 hS ?_;refine tA 1 hS ?_;refine tA 2 hS ?_;refine tA 3 hS ?_;refine tA 4 hS ?_;refine tA 5 hS ?_;refine tA 6 hS ?_;refine tA 7 hS ?_;refine tA 8 hS ?_;refine tA 9 hS ?_;simp only[Act.put,Za,Zd,Zc];refine oneH 10 (by rfl) (by kernel_rfl) (fun K hK=>?_)
   gi_wp2_with (gi_at_call 90;refine (callsIn_wide.2 (HC2.out wa HBA.out)).mono ?_;rintro e9 wb ⟨rfl,b9⟩)
   have HBB:=Hd (Z5 HBA.out b9);refine hK _ _ (fun _=>HCS.out wb HBB.out) ?_
   clear hK K b9;replace hS:=HCS.out wb HBB.out;refine tA 11 hS ?_;refine tA 12 hS ?_;simp only[Act.put,Za,Zd,Zc];refine Z9 (by kernel_rfl) ?_
   clear hS;by_cases hz0:z<0
   ·gi_wp2_with fail
    refine⟨⟨k+1,hlt,by go_num,?_,HBB.out⟩,by simp[intOf]<;>omega⟩
    show ∀j (hj:j<l.length),j<k+1->_;intro j hj hjk;by_cases hjl:j<k
    ·exact HF.out j hj hjl
    ·obtain rfl:j=k:=by omega
     rw[HZ.out hj];exact hz0
   ·have HNL:Hid (∀h:k<l.length,0<=Eg.cmp l[k].1.2 x.1.2):=fun h=>by rw[HZ.out h];omega
    gi_wp2_with fail
    refine Z8 (List.range 13) (Cs [(⟨w0.heap.size,0,none⟩,.int .i64 x.1.2.kind),(⟨w0.heap.size,1,none⟩,.slice p0 n0 q0),(⟨w0.heap.size,2,none⟩,.slice p1 n1 q1),(⟨w0.heap.size,3,none⟩,.slice p2 n2 q2),(⟨w0.heap.size,4,none⟩,.int .i64 x.1.2.server),(ea,.int .i64 y.1.2.kind),(⟨ea.block,ea.off+1,none⟩,.slice r0 k0 t0),(⟨ea.block,ea.off+2,none⟩,.slice r1 k1 t1),(⟨ea.block,ea.off+3,none⟩,.slice r2 k2 t2),(⟨ea.block,ea.off+4,none⟩,.int .i64 y.1.2.server)]) 13 rfl (by kernel_rfl) ?_
    intro wc hwwc;have HBC:Hid (Below W1.heap.size W1 wc):=by subst hwwc;exact HBB.out.drew
    have hS:=HCS.out wc HBC.out;clear hwwc;refine tA 0 hS ?_;refine tA 1 hS ?_;refine tA 2 hS ?_;refine tA 3 hS ?_;refine tA 4 hS ?_;refine tA 5 hS ?_;refine tA 6 hS ?_;refine tA 7 hS ?_;refine tA 8 hS ?_;refine tA 9 hS ?_;simp only[Act.put,Za,Zd,Zc];refine oneH 10 (by rfl) (by kernel_rfl) (fun K hK=>?_)
    gi_wp2_with (gi_at_call 90;refine (callsIn_wide.2 (HC2.out wc HBC.out)).mono ?_;rintro e9 wd ⟨rfl,b9⟩)
    have HBD:=Hd (Z5 HBC.out b9);refine hK _ _ (fun _=>HCS.out wd HBD.out) ?_
    clear hK K b9;replace hS:=HCS.out wd HBD.out;refine tA 11 hS ?_;refine tA 12 hS ?_;simp only[Act.put,Za,Zd,Zc];refine Z9 (by kernel_rfl) ?_
    clear hS;by_cases he:z=0
    ·subst he
     gi_wp2_with fail
     go_ret
     refine⟨_,rfl,?_,Z5 HB1.out HBD.out⟩;rw[putG_at x l k hk HF.out (fun h=>by have:=HNL.out h;omega),if_pos ⟨hlt,HZ.out hlt⟩]
     exact HV.out.below (Z5 HB1.out HBD.out)
    ·have heb:(z == 0)=false:=by rw[beq_eq_false_iff_ne];exact he
     have HPUT:Hid (putG x l=l.take k++x::l.drop k):=by show _=_;rw[putG_at x l k hk HF.out (fun h=>by have:=HNL.out h;omega),if_neg (by rintro⟨h,e⟩;rw[HZ.out h] at e;exact he e)]
     gi_wp2_with fail
     refine Z8 (List.range 9) (Cs [(⟨w0.heap.size,0,none⟩,.int .i64 x.1.2.kind),(⟨w0.heap.size,1,none⟩,.slice p0 n0 q0),(⟨w0.heap.size,2,none⟩,.slice p1 n1 q1),(⟨w0.heap.size,3,none⟩,.slice p2 n2 q2),(⟨w0.heap.size,4,none⟩,.int .i64 x.1.2.server)]) 9 rfl (by kernel_rfl) ?_
     intro ua hwa;have HBua:Hid (Below W1.heap.size W1 ua):=by subst hwa;exact HBD.out.drew
     have hS:=HCX.out ua HBua.out;clear hwa;refine tA 1 hS ?_;refine tA 2 hS ?_;refine tC 3 hS ?_;refine tA 5 hS ?_;simp only[Act.put,Za,Zd,Zc];refine twoH2 0 6 (by rfl) (by rfl) (by kernel_rfl) (fun K hK=>?_) (fun K hK=>?_)
     ·gi_wp2_with fail
      obtain⟨u1,hw⟩:=Zq (ua.alloc (.cells #[] 78));obtain⟨bx,hbx⟩:=Zq ua.heap.size;have hrow:=row_emptyRG5 (fun g=>W1.heap.size<=g) ua HBua.out.size
      have hbd:Below W1.heap.size W1 u1:=by rw[<-hw];exact HBua.out.alloc HBua.out.size _
      rw[hw,hbx] at hrow;rw[hw,hbx];have HROW:=Hd hrow;have HBu1:=Hd hbd;refine hK _ _ (fun _=>HCX.out u1 hbd) ?_
      clear hK K hw hbx hrow hbd;refine twoH2 4 6 (by rfl) (by rfl) (by kernel_rfl) (fun K hK=>?_) (fun K hK=>?_)
      ·gi_wp2_with (gi_at_builtin;refine Z7 (fun g=>W1.heap.size<=g) 78 _ 5 88 info_redge rfl (by decide) rfl _ _ _ Tryz.underlying31 rfl _ 0 [] (by rfl) HROW.out _ tk (by rfl) (HT.out u1 HBu1.out) (by have:=HTL.out;omega) (by omega) HBu1.out.size ?_;intro v10 u2 hrow10 hgr10)
       have HBu2:=Hd (HBu1.out.grown hgr10 HBu1.out.size (fun g hg=>HROW.out.2 g hg))
       have hrow11:Row (fun g=>W1.heap.size<=g) 78 5 v10 k tk.flatten u2:=by rw[HTL.out,Nat.zero_add,Zm] at hrow10;exact hrow10
       clear HROW;have HROW:=Hd hrow11;refine hK _ _ (fun _=>HCX.out u2 HBu2.out) ?_
       clear hK K hrow10 hrow11 hgr10;refine oneH 6 (by rfl) (by kernel_rfl) (fun K hK=>?_)
       gi_wp2_with fail
       obtain⟨u3,hw⟩:=Zq (u2.alloc (.cells #[.int .i64 x.1.2.kind,.slice p0 n0 q0,.slice p1 n1 q1,.slice p2 n2 q2,.int .i64 x.1.2.server] 78));obtain⟨b2,hb2⟩:=Zq u2.heap.size;have hgx:GRd 5 (.slice (some ⟨u2.heap.size,0,none⟩) 1 1) [[.int .i64 x.1.2.kind,.slice p0 n0 q0,.slice p1 n1 q1,.slice p2 n2 q2,.int .i64 x.1.2.server]] (u2.alloc (.cells #[.int .i64 x.1.2.kind,.slice p0 n0 q0,.slice p1 n1 q1,.slice p2 n2 q2,.int .i64 x.1.2.server] 78)):=GRd.new [.int .i64 x.1.2.kind,.slice p0 n0 q0,.slice p1 n1 q1,.slice p2 n2 q2,.int .i64 x.1.2.server] rfl (by simp[Value.oneCell']) u2 78
       have hbd:Below W1.heap.size W1 u3:=by rw[<-hw];exact HBu2.out.alloc HBu2.out.size _
       have hlt2:b2<u3.heap.size:=by rw[<-hw,<-hb2,World.size_alloc];omega
       have HNE:Hid (∀g,Value.ownBlock v10=some g->g≠b2):=fun g hg=>by have h:=HROW.out.ltH hg;omega
       have hrow':=HROW.out.alloc (.cells #[.int .i64 x.1.2.kind,.slice p0 n0 q0,.slice p1 n1 q1,.slice p2 n2 q2,.int .i64 x.1.2.server] 78);rw[hw] at hrow';clear HROW;have HROW:=Hd hrow';clear hrow';rw[hw,hb2] at hgx;rw[hw,hb2];have HGX:=Hd hgx;have HLT:=Hd hlt2;have HBu3:=Hd hbd;refine hK _ _ (fun _=>HCX.out u3 hbd) ?_
       clear hK K hw hb2 hgx hbd hlt2;refine oneH 7 (by rfl) (by kernel_rfl) (fun K hK=>?_)
       gi_wp2_with (gi_at_builtin;refine Z7 (fun g=>W1.heap.size<=g) 78 _ 5 88 info_redge rfl (by decide) rfl _ _ _ Tryz.underlying31 rfl _ k tk (by rfl) HROW.out _ [[.int .i64 x.1.2.kind,.slice p0 n0 q0,.slice p1 n1 q1,.slice p2 n2 q2,.int .i64 x.1.2.server]] (by rfl) HGX.out (by simp;omega) (by omega) HBu3.out.size ?_;intro v12 u4 hrow12 hgr12)
       have HBu4:=Hd (HBu3.out.grown hgr12 HBu3.out.size (fun g hg=>HROW.out.2 g hg))
       have HROX:=Hd hrow12;refine hK _ _ (fun _=>HCX.out u4 HBu4.out) ?_
       clear hK K hrow12 hgr12 HROW HGX;refine oneH 8 (by rfl) (by kernel_rfl) (fun K hK=>?_)
       gi_wp2_with fail
       refine hK _ _ (fun _=>HCX.out u4 HBu4.out) ?_
       clear hK K;refine Z9 (by kernel_rfl) ?_
       gi_wp2_with (gi_at_builtin;refine Z7 (fun g=>W1.heap.size<=g) 78 _ 5 88 info_redge rfl (by decide) rfl _ _ _ Tryz.underlying31 rfl _ (k+1) (tk++[[.int .i64 x.1.2.kind,.slice p0 n0 q0,.slice p1 n1 q1,.slice p2 n2 q2,.int .i64 x.1.2.server]]) (by rfl) HROX.out _ dk (by rfl) (HD.out u4 HBu4.out) (by have:=HDL.out;omega) (by omega) HBu4.out.size ?_;intro v13 u5 hrow13 hgr13;have HROY:=Hd hrow13;have HGRY:=Hd hgr13;clear hrow13 hgr13)
       have HBu5:=Hd (HBu4.out.grown HGRY.out HBu4.out.size (fun g hg=>HROX.out.2 g hg))
       gi_wp2_with fail
       go_ret
       refine⟨_,rfl,?_,Z5 HB1.out HBu5.out⟩;have hr:=HROY.out;rw[HFIN.out] at hr;rw[HPUT.out];refine Row.grd (by
        have hl:((l.take k++x::l.drop k).map encG).length=k+1+dk.length:=by rw[HDL.out];simp;omega
        rw[hl];exact hr) (fun c hc=>?_)
       obtain⟨q,_,rfl⟩:=List.mem_map.1 hc;exact⟨encG_len q,encG_one q⟩
      ·gi_wp2_with fail
       obtain⟨u6,hw⟩:=Zq (u1.alloc (.cells #[.int .i64 x.1.2.kind,.slice p0 n0 q0,.slice p1 n1 q1,.slice p2 n2 q2,.int .i64 x.1.2.server] 78));obtain⟨b2,hb2⟩:=Zq u1.heap.size;have hgx:GRd 5 (.slice (some ⟨u1.heap.size,0,none⟩) 1 1) [[.int .i64 x.1.2.kind,.slice p0 n0 q0,.slice p1 n1 q1,.slice p2 n2 q2,.int .i64 x.1.2.server]] (u1.alloc (.cells #[.int .i64 x.1.2.kind,.slice p0 n0 q0,.slice p1 n1 q1,.slice p2 n2 q2,.int .i64 x.1.2.server] 78)):=GRd.new [.int .i64 x.1.2.kind,.slice p0 n0 q0,.slice p1 n1 q1,.slice p2 n2 q2,.int .i64 x.1.2.server] rfl (by simp[Value.oneCell']) u1 78
       have hbd:Below W1.heap.size W1 u6:=by rw[<-hw];exact HBu1.out.alloc HBu1.out.size _
       have hlt2:b2<u6.heap.size:=by rw[<-hw,<-hb2,World.size_alloc];omega
       have HNE:Hid (∀g,Value.ownBlock (Value.slice (some ⟨bx,0,none⟩) 0 0)=some g->g≠b2):=fun g hg=>by have h:=HROW.out.ltH hg;omega
       have hrow':=HROW.out.alloc (.cells #[.int .i64 x.1.2.kind,.slice p0 n0 q0,.slice p1 n1 q1,.slice p2 n2 q2,.int .i64 x.1.2.server] 78);rw[hw] at hrow';clear HROW;have HROW:=Hd hrow';clear hrow';rw[hw,hb2] at hgx;rw[hw,hb2];have HGX:=Hd hgx;have HLT:=Hd hlt2;have HBu6:=Hd hbd;refine hK _ _ (fun _=>HCX.out u6 hbd) ?_
       clear hK K hw hb2 hgx hbd hlt2;refine oneH 4 (by rfl) (by kernel_rfl) (fun K hK=>?_)
       gi_wp2_with (gi_at_builtin;refine Z7 (fun g=>W1.heap.size<=g) 78 _ 5 88 info_redge rfl (by decide) rfl _ _ _ Tryz.underlying31 rfl _ 0 [] (by rfl) HROW.out _ tk (by rfl) (HT.out u6 HBu6.out) (by have:=HTL.out;omega) (by omega) HBu6.out.size ?_;intro v10 u7 hrow10 hgr10)
       have HBu7:=Hd (HBu6.out.grown hgr10 HBu6.out.size (fun g hg=>HROW.out.2 g hg))
       have hrow11:Row (fun g=>W1.heap.size<=g) 78 5 v10 k tk.flatten u7:=by rw[HTL.out,Nat.zero_add,Zm] at hrow10;exact hrow10
       have hgx:=HGX.out.grown75 hgr10 (fun g hg=>HNE.out g hg)
       clear HGX;have HGX:=Hd hgx;clear hgx HNE;clear HROW;have HROW:=Hd hrow11;refine hK _ _ (fun _=>HCX.out u7 HBu7.out) ?_
       clear hK K hrow10 hrow11 hgr10;refine oneH 7 (by rfl) (by kernel_rfl) (fun K hK=>?_)
       gi_wp2_with (gi_at_builtin;refine Z7 (fun g=>W1.heap.size<=g) 78 _ 5 88 info_redge rfl (by decide) rfl _ _ _ Tryz.underlying31 rfl _ k tk (by rfl) HROW.out _ [[.int .i64 x.1.2.kind,.slice p0 n0 q0,.slice p1 n1 q1,.slice p2 n2 q2,.int .i64 x.1.2.server]] (by rfl) HGX.out (by simp;omega) (by omega) HBu7.out.size ?_;intro v12 u8 hrow12 hgr12)
       have HBu8:=Hd (HBu7.out.grown hgr12 HBu7.out.size (fun g hg=>HROW.out.2 g hg))
       have HROX:=Hd hrow12;refine hK _ _ (fun _=>HCX.out u8 HBu8.out) ?_
       clear hK K hrow12 hgr12 HROW HGX;refine oneH 8 (by rfl) (by kernel_rfl) (fun K hK=>?_)
       gi_wp2_with fail
       refine hK _ _ (fun _=>HCX.out u8 HBu8.out) ?_
       clear hK K;refine Z9 (by kernel_rfl) ?_
       gi_wp2_with (gi_at_builtin;refine Z7 (fun g=>W1.heap.size<=g) 78 _ 5 88 info_redge rfl (by decide) rfl _ _ _ Tryz.underlying31 rfl _ (k+1) (tk++[[.int .i64 x.1.2.kind,.slice p0 n0 q0,.slice p1 n1 q1,.slice p2 n2 q2,.int .i64 x.1.2.server]]) (by rfl) HROX.out _ dk (by rfl) (HD.out u8 HBu8.out) (by have:=HDL.out;omega) (by omega) HBu8.out.size ?_;intro v13 u9 hrow13 hgr13;have HROY:=Hd hrow13;have HGRY:=Hd hgr13;clear hrow13 hgr13)
       have HBu9:=Hd (HBu8.out.grown HGRY.out HBu8.out.size (fun g hg=>HROX.out.2 g hg))
       gi_wp2_with fail
       go_ret
       refine⟨_,rfl,?_,Z5 HB1.out HBu9.out⟩;have hr:=HROY.out;rw[HFIN.out] at hr;rw[HPUT.out];refine Row.grd (by
        have hl:((l.take k++x::l.drop k).map encG).length=k+1+dk.length:=by rw[HDL.out];simp;omega
        rw[hl];exact hr) (fun c hc=>?_)
       obtain⟨q,_,rfl⟩:=List.mem_map.1 hc;exact⟨encG_len q,encG_one q⟩
     ·gi_wp2_with fail
      obtain⟨u10,hw⟩:=Zq (ua.alloc (.cells #[.int .i64 x.1.2.kind,.slice p0 n0 q0,.slice p1 n1 q1,.slice p2 n2 q2,.int .i64 x.1.2.server] 78));obtain⟨b2,hb2⟩:=Zq ua.heap.size;have hgx:GRd 5 (.slice (some ⟨ua.heap.size,0,none⟩) 1 1) [[.int .i64 x.1.2.kind,.slice p0 n0 q0,.slice p1 n1 q1,.slice p2 n2 q2,.int .i64 x.1.2.server]] (ua.alloc (.cells #[.int .i64 x.1.2.kind,.slice p0 n0 q0,.slice p1 n1 q1,.slice p2 n2 q2,.int .i64 x.1.2.server] 78)):=GRd.new [.int .i64 x.1.2.kind,.slice p0 n0 q0,.slice p1 n1 q1,.slice p2 n2 q2,.int .i64 x.1.2.server] rfl (by simp[Value.oneCell']) ua 78
      have hbd:Below W1.heap.size W1 u10:=by rw[<-hw];exact HBua.out.alloc HBua.out.size _
      have hlt2:b2<u10.heap.size:=by rw[<-hw,<-hb2,World.size_alloc];omega
      rw[hw,hb2] at hgx;rw[hw,hb2];have HGX:=Hd hgx;have HLT:=Hd hlt2;have HBu10:=Hd hbd;refine hK _ _ (fun _=>HCX.out u10 hbd) ?_
      clear hK K hw hb2 hgx hbd hlt2;refine oneH 0 (by rfl) (by kernel_rfl) (fun K hK=>?_)
      gi_wp2_with fail
      obtain⟨u11,hw⟩:=Zq (u10.alloc (.cells #[] 78));obtain⟨bx,hbx⟩:=Zq u10.heap.size;have hrow:=row_emptyRG5 (fun g=>W1.heap.size<=g) u10 HBu10.out.size
      have hbd:Below W1.heap.size W1 u11:=by rw[<-hw];exact HBu10.out.alloc HBu10.out.size _
      have hgx:GRd 5 (.slice (some ⟨b2,0,none⟩) 1 1) [[.int .i64 x.1.2.kind,.slice p0 n0 q0,.slice p1 n1 q1,.slice p2 n2 q2,.int .i64 x.1.2.server]] u11:=by rw[<-hw];exact HGX.out.below (Zr)
      have HNE:Hid (∀g,(Value.slice (some ⟨bx,0,none⟩) 0 0).ownBlock=some g->g≠b2):=fun g hg=>by have:=HLT.out;have h:bx=g:=(by simpa[Value.ownBlock] using hg);omega
      clear HGX;have HGX:=Hd hgx;clear hgx;rw[hw,hbx] at hrow;rw[hw,hbx];have HROW:=Hd hrow;have HBu11:=Hd hbd;refine hK _ _ (fun _=>HCX.out u11 hbd) ?_
      clear hK K hw hbx hrow hbd;refine oneH 4 (by rfl) (by kernel_rfl) (fun K hK=>?_)
      gi_wp2_with (gi_at_builtin;refine Z7 (fun g=>W1.heap.size<=g) 78 _ 5 88 info_redge rfl (by decide) rfl _ _ _ Tryz.underlying31 rfl _ 0 [] (by rfl) HROW.out _ tk (by rfl) (HT.out u11 HBu11.out) (by have:=HTL.out;omega) (by omega) HBu11.out.size ?_;intro v10 u12 hrow10 hgr10)
      have HBu12:=Hd (HBu11.out.grown hgr10 HBu11.out.size (fun g hg=>HROW.out.2 g hg))
      have hrow11:Row (fun g=>W1.heap.size<=g) 78 5 v10 k tk.flatten u12:=by rw[HTL.out,Nat.zero_add,Zm] at hrow10;exact hrow10
      have hgx:=HGX.out.grown75 hgr10 (fun g hg=>HNE.out g hg)
      clear HGX;have HGX:=Hd hgx;clear hgx HNE;clear HROW;have HROW:=Hd hrow11;refine hK _ _ (fun _=>HCX.out u12 HBu12.out) ?_
      clear hK K hrow10 hrow11 hgr10;refine oneH 7 (by rfl) (by kernel_rfl) (fun K hK=>?_)
      gi_wp2_with (gi_at_builtin;refine Z7 (fun g=>W1.heap.size<=g) 78 _ 5 88 info_redge rfl (by decide) rfl _ _ _ Tryz.underlying31 rfl _ k tk (by rfl) HROW.out _ [[.int .i64 x.1.2.kind,.slice p0 n0 q0,.slice p1 n1 q1,.slice p2 n2 q2,.int .i64 x.1.2.server]] (by rfl) HGX.out (by simp;omega) (by omega) HBu12.out.size ?_;intro v12 u13 hrow12 hgr12)
      have HBu13:=Hd (HBu12.out.grown hgr12 HBu12.out.size (fun g hg=>HROW.out.2 g hg))
      have HROX:=Hd hrow12;refine hK _ _ (fun _=>HCX.out u13 HBu13.out) ?_
      clear hK K hrow12 hgr12 HROW HGX;refine oneH 8 (by rfl) (by kernel_rfl) (fun K hK=>?_)
      gi_wp2_with fail
      refine hK _ _ (fun _=>HCX.out u13 HBu13.out) ?_
      clear hK K;refine Z9 (by kernel_rfl) ?_
      gi_wp2_with (gi_at_builtin;refine Z7 (fun g=>W1.heap.size<=g) 78 _ 5 88 info_redge rfl (by decide) rfl _ _ _ Tryz.underlying31 rfl _ (k+1) (tk++[[.int .i64 x.1.2.kind,.slice p0 n0 q0,.slice p1 n1 q1,.slice p2 n2 q2,.int .i64 x.1.2.server]]) (by rfl) HROX.out _ dk (by rfl) (HD.out u13 HBu13.out) (by have:=HDL.out;omega) (by omega) HBu13.out.size ?_;intro v13 u14 hrow13 hgr13;have HROY:=Hd hrow13;have HGRY:=Hd hgr13;clear hrow13 hgr13)
      have HBu14:=Hd (HBu13.out.grown HGRY.out HBu13.out.size (fun g hg=>HROX.out.2 g hg))
      gi_wp2_with fail
      go_ret
      refine⟨_,rfl,?_,Z5 HB1.out HBu14.out⟩;have hr:=HROY.out;rw[HFIN.out] at hr;rw[HPUT.out];refine Row.grd (by
       have hl:((l.take k++x::l.drop k).map encG).length=k+1+dk.length:=by rw[HDL.out];simp;omega
       rw[hl];exact hr) (fun c hc=>?_)
      obtain⟨q,_,rfl⟩:=List.mem_map.1 hc;exact⟨encG_len q,encG_one q⟩
  ·have hlz:¬((k:Int)<(l.length:Int)):=by omega
   have hkl:k=l.length:=by omega
   have HPUT:Hid (putG x l=l.take k++x::l.drop k):=by show _=_;rw[putG_at x l k hk HF.out (fun h=>absurd h hlt),if_neg (by rintro⟨h,_⟩;exact hlt h)]
   clear hkl;gi_wp2_with fail
   refine Z8 (List.range 13) (Cs [(⟨w0.heap.size,0,none⟩,.int .i64 x.1.2.kind),(⟨w0.heap.size,1,none⟩,.slice p0 n0 q0),(⟨w0.heap.size,2,none⟩,.slice p1 n1 q1),(⟨w0.heap.size,3,none⟩,.slice p2 n2 q2),(⟨w0.heap.size,4,none⟩,.int .i64 x.1.2.server)]) 13 rfl (by kernel_rfl) ?_
   intro wa hwwa;have HBA:Hid (Below W1.heap.size W1 wa):=by subst hwwa;exact HB.out.drew
   have hS:=HCX.out wa HBA.out;clear hwwa;refine tA 0 hS ?_;refine tA 1 hS ?_;refine tA 2 hS ?_;refine tA 3 hS ?_;refine tA 4 hS ?_;simp only[Act.put,Za,Zd,Zc];refine tU 5 hS ?_;refine tU 6 hS ?_;refine tU 7 hS ?_;refine tU 8 hS ?_;refine tU 9 hS ?_;refine tU 10 hS ?_;refine tU 11 hS ?_;simp only[Act.put,Za,Zd,Zc];refine tA 12 hS ?_;simp only[Act.put,Za,Zd,Zc];refine Z9 (by kernel_rfl) ?_
   clear hS;gi_wp2_with fail
   refine Z8 (List.range 13) (Cs [(⟨w0.heap.size,0,none⟩,.int .i64 x.1.2.kind),(⟨w0.heap.size,1,none⟩,.slice p0 n0 q0),(⟨w0.heap.size,2,none⟩,.slice p1 n1 q1),(⟨w0.heap.size,3,none⟩,.slice p2 n2 q2),(⟨w0.heap.size,4,none⟩,.int .i64 x.1.2.server)]) 13 rfl (by kernel_rfl) ?_
   intro wb hwwb;have HBB:Hid (Below W1.heap.size W1 wb):=by subst hwwb;exact HBA.out.drew
   have hS:=HCX.out wb HBB.out;clear hwwb;refine tA 0 hS ?_;refine tA 1 hS ?_;refine tA 2 hS ?_;refine tA 3 hS ?_;refine tA 4 hS ?_;simp only[Act.put,Za,Zd,Zc];refine tU 5 hS ?_;refine tU 6 hS ?_;refine tU 7 hS ?_;refine tU 8 hS ?_;refine tU 9 hS ?_;refine tU 10 hS ?_;refine tU 11 hS ?_;simp only[Act.put,Za,Zd,Zc];refine tA 12 hS ?_;simp only[Act.put,Za,Zd,Zc];refine Z9 (by kernel_rfl) ?_
   clear hS;gi_wp2_with fail
   refine Z8 (List.range 9) (Cs [(⟨w0.heap.size,0,none⟩,.int .i64 x.1.2.kind),(⟨w0.heap.size,1,none⟩,.slice p0 n0 q0),(⟨w0.heap.size,2,none⟩,.slice p1 n1 q1),(⟨w0.heap.size,3,none⟩,.slice p2 n2 q2),(⟨w0.heap.size,4,none⟩,.int .i64 x.1.2.server)]) 9 rfl (by kernel_rfl) ?_
   intro ua hwa;have HBua:Hid (Below W1.heap.size W1 ua):=by subst hwa;exact HBB.out.drew
   have hS:=HCX.out ua HBua.out;clear hwa;refine tA 1 hS ?_;refine tA 2 hS ?_;refine tC 3 hS ?_;refine tA 5 hS ?_;simp only[Act.put,Za,Zd,Zc];refine twoH2 0 6 (by rfl) (by rfl) (by kernel_rfl) (fun K hK=>?_) (fun K hK=>?_)
   ·gi_wp2_with fail
    obtain⟨u1,hw⟩:=Zq (ua.alloc (.cells #[] 78));obtain⟨bx,hbx⟩:=Zq ua.heap.size;have hrow:=row_emptyRG5 (fun g=>W1.heap.size<=g) ua HBua.out.size
    have hbd:Below W1.heap.size W1 u1:=by rw[<-hw];exact HBua.out.alloc HBua.out.size _
    rw[hw,hbx] at hrow;rw[hw,hbx];have HROW:=Hd hrow;have HBu1:=Hd hbd;refine hK _ _ (fun _=>HCX.out u1 hbd) ?_
    clear hK K hw hbx hrow hbd;refine twoH2 4 6 (by rfl) (by rfl) (by kernel_rfl) (fun K hK=>?_) (fun K hK=>?_)
    ·gi_wp2_with (gi_at_builtin;refine Z7 (fun g=>W1.heap.size<=g) 78 _ 5 88 info_redge rfl (by decide) rfl _ _ _ Tryz.underlying31 rfl _ 0 [] (by rfl) HROW.out _ tk (by rfl) (HT.out u1 HBu1.out) (by have:=HTL.out;omega) (by omega) HBu1.out.size ?_;intro v10 u2 hrow10 hgr10)
     have HBu2:=Hd (HBu1.out.grown hgr10 HBu1.out.size (fun g hg=>HROW.out.2 g hg))
     have hrow11:Row (fun g=>W1.heap.size<=g) 78 5 v10 k tk.flatten u2:=by rw[HTL.out,Nat.zero_add,Zm] at hrow10;exact hrow10
     clear HROW;have HROW:=Hd hrow11;refine hK _ _ (fun _=>HCX.out u2 HBu2.out) ?_
     clear hK K hrow10 hrow11 hgr10;refine oneH 6 (by rfl) (by kernel_rfl) (fun K hK=>?_)
     gi_wp2_with fail
     obtain⟨u3,hw⟩:=Zq (u2.alloc (.cells #[.int .i64 x.1.2.kind,.slice p0 n0 q0,.slice p1 n1 q1,.slice p2 n2 q2,.int .i64 x.1.2.server] 78));obtain⟨b2,hb2⟩:=Zq u2.heap.size;have hgx:GRd 5 (.slice (some ⟨u2.heap.size,0,none⟩) 1 1) [[.int .i64 x.1.2.kind,.slice p0 n0 q0,.slice p1 n1 q1,.slice p2 n2 q2,.int .i64 x.1.2.server]] (u2.alloc (.cells #[.int .i64 x.1.2.kind,.slice p0 n0 q0,.slice p1 n1 q1,.slice p2 n2 q2,.int .i64 x.1.2.server] 78)):=GRd.new [.int .i64 x.1.2.kind,.slice p0 n0 q0,.slice p1 n1 q1,.slice p2 n2 q2,.int .i64 x.1.2.server] rfl (by simp[Value.oneCell']) u2 78
     have hbd:Below W1.heap.size W1 u3:=by rw[<-hw];exact HBu2.out.alloc HBu2.out.size _
     have hlt2:b2<u3.heap.size:=by rw[<-hw,<-hb2,World.size_alloc];omega
     have HNE:Hid (∀g,Value.ownBlock v10=some g->g≠b2):=fun g hg=>by have h:=HROW.out.ltH hg;omega
     have hrow':=HROW.out.alloc (.cells #[.int .i64 x.1.2.kind,.slice p0 n0 q0,.slice p1 n1 q1,.slice p2 n2 q2,.int .i64 x.1.2.server] 78);rw[hw] at hrow';clear HROW;have HROW:=Hd hrow';clear hrow';rw[hw,hb2] at hgx;rw[hw,hb2];have HGX:=Hd hgx;have HLT:=Hd hlt2;have HBu3:=Hd hbd;refine hK _ _ (fun _=>HCX.out u3 hbd) ?_
     clear hK K hw hb2 hgx hbd hlt2;refine oneH 7 (by rfl) (by kernel_rfl) (fun K hK=>?_)
     gi_wp2_with (gi_at_builtin;refine Z7 (fun g=>W1.heap.size<=g) 78 _ 5 88 info_redge rfl (by decide) rfl _ _ _ Tryz.underlying31 rfl _ k tk (by rfl) HROW.out _ [[.int .i64 x.1.2.kind,.slice p0 n0 q0,.slice p1 n1 q1,.slice p2 n2 q2,.int .i64 x.1.2.server]] (by rfl) HGX.out (by simp;omega) (by omega) HBu3.out.size ?_;intro v12 u4 hrow12 hgr12)
     have HBu4:=Hd (HBu3.out.grown hgr12 HBu3.out.size (fun g hg=>HROW.out.2 g hg))
     have HROX:=Hd hrow12;refine hK _ _ (fun _=>HCX.out u4 HBu4.out) ?_
     clear hK K hrow12 hgr12 HROW HGX;refine oneH 8 (by rfl) (by kernel_rfl) (fun K hK=>?_)
     gi_wp2_with fail
     refine hK _ _ (fun _=>HCX.out u4 HBu4.out) ?_
     clear hK K;refine Z9 (by kernel_rfl) ?_
     gi_wp2_with (gi_at_builtin;refine Z7 (fun g=>W1.heap.size<=g) 78 _ 5 88 info_redge rfl (by decide) rfl _ _ _ Tryz.underlying31 rfl _ (k+1) (tk++[[.int .i64 x.1.2.kind,.slice p0 n0 q0,.slice p1 n1 q1,.slice p2 n2 q2,.int .i64 x.1.2.server]]) (by rfl) HROX.out _ dk (by rfl) (HD.out u4 HBu4.out) (by have:=HDL.out;omega) (by omega) HBu4.out.size ?_;intro v13 u5 hrow13 hgr13;have HROY:=Hd hrow13;have HGRY:=Hd hgr13;clear hrow13 hgr13)
     have HBu5:=Hd (HBu4.out.grown HGRY.out HBu4.out.size (fun g hg=>HROX.out.2 g hg))
     gi_wp2_with fail
     go_ret
     refine⟨_,rfl,?_,Z5 HB1.out HBu5.out⟩;have hr:=HROY.out;rw[HFIN.out] at hr;rw[HPUT.out];refine Row.grd (by
      have hl:((l.take k++x::l.drop k).map encG).length=k+1+dk.length:=by rw[HDL.out];simp;omega
      rw[hl];exact hr) (fun c hc=>?_)
     obtain⟨q,_,rfl⟩:=List.mem_map.1 hc;exact⟨encG_len q,encG_one q⟩
    ·gi_wp2_with fail
     obtain⟨u6,hw⟩:=Zq (u1.alloc (.cells #[.int .i64 x.1.2.kind,.slice p0 n0 q0,.slice p1 n1 q1,.slice p2 n2 q2,.int .i64 x.1.2.server] 78));obtain⟨b2,hb2⟩:=Zq u1.heap.size;have hgx:GRd 5 (.slice (some ⟨u1.heap.size,0,none⟩) 1 1) [[.int .i64 x.1.2.kind,.slice p0 n0 q0,.slice p1 n1 q1,.slice p2 n2 q2,.int .i64 x.1.2.server]] (u1.alloc (.cells #[.int .i64 x.1.2.kind,.slice p0 n0 q0,.slice p1 n1 q1,.slice p2 n2 q2,.int .i64 x.1.2.server] 78)):=GRd.new [.int .i64 x.1.2.kind,.slice p0 n0 q0,.slice p1 n1 q1,.slice p2 n2 q2,.int .i64 x.1.2.server] rfl (by simp[Value.oneCell']) u1 78
     have hbd:Below W1.heap.size W1 u6:=by rw[<-hw];exact HBu1.out.alloc HBu1.out.size _
     have hlt2:b2<u6.heap.size:=by rw[<-hw,<-hb2,World.size_alloc];omega
     have HNE:Hid (∀g,Value.ownBlock (Value.slice (some ⟨bx,0,none⟩) 0 0)=some g->g≠b2):=fun g hg=>by have h:=HROW.out.ltH hg;omega
     have hrow':=HROW.out.alloc (.cells #[.int .i64 x.1.2.kind,.slice p0 n0 q0,.slice p1 n1 q1,.slice p2 n2 q2,.int .i64 x.1.2.server] 78);rw[hw] at hrow';clear HROW;have HROW:=Hd hrow';clear hrow';rw[hw,hb2] at hgx;rw[hw,hb2];have HGX:=Hd hgx;have HLT:=Hd hlt2;have HBu6:=Hd hbd;refine hK _ _ (fun _=>HCX.out u6 hbd) ?_
     clear hK K hw hb2 hgx hbd hlt2;refine oneH 4 (by rfl) (by kernel_rfl) (fun K hK=>?_)
     gi_wp2_with (gi_at_builtin;refine Z7 (fun g=>W1.heap.size<=g) 78 _ 5 88 info_redge rfl (by decide) rfl _ _ _ Tryz.underlying31 rfl _ 0 [] (by rfl) HROW.out _ tk (by rfl) (HT.out u6 HBu6.out) (by have:=HTL.out;omega) (by omega) HBu6.out.size ?_;intro v10 u7 hrow10 hgr10)
     have HBu7:=Hd (HBu6.out.grown hgr10 HBu6.out.size (fun g hg=>HROW.out.2 g hg))
     have hrow11:Row (fun g=>W1.heap.size<=g) 78 5 v10 k tk.flatten u7:=by rw[HTL.out,Nat.zero_add,Zm] at hrow10;exact hrow10
     have hgx:=HGX.out.grown75 hgr10 (fun g hg=>HNE.out g hg)
     clear HGX;have HGX:=Hd hgx;clear hgx HNE;clear HROW;have HROW:=Hd hrow11;refine hK _ _ (fun _=>HCX.out u7 HBu7.out) ?_
     clear hK K hrow10 hrow11 hgr10;refine oneH 7 (by rfl) (by kernel_rfl) (fun K hK=>?_)
     gi_wp2_with (gi_at_builtin;refine Z7 (fun g=>W1.heap.size<=g) 78 _ 5 88 info_redge rfl (by decide) rfl _ _ _ Tryz.underlying31 rfl _ k tk (by rfl) HROW.out _ [[.int .i64 x.1.2.kind,.slice p0 n0 q0,.slice p1 n1 q1,.slice p2 n2 q2,.int .i64 x.1.2.server]] (by rfl) HGX.out (by simp;omega) (by omega) HBu7.out.size ?_;intro v12 u8 hrow12 hgr12)
     have HBu8:=Hd (HBu7.out.grown hgr12 HBu7.out.size (fun g hg=>HROW.out.2 g hg))
     have HROX:=Hd hrow12;refine hK _ _ (fun _=>HCX.out u8 HBu8.out) ?_
     clear hK K hrow12 hgr12 HROW HGX;refine oneH 8 (by rfl) (by kernel_rfl) (fun K hK=>?_)
     gi_wp2_with fail
     refine hK _ _ (fun _=>HCX.out u8 HBu8.out) ?_
     clear hK K;refine Z9 (by kernel_rfl) ?_
     gi_wp2_with (gi_at_builtin;refine Z7 (fun g=>W1.heap.size<=g) 78 _ 5 88 info_redge rfl (by decide) rfl _ _ _ Tryz.underlying31 rfl _ (k+1) (tk++[[.int .i64 x.1.2.kind,.slice p0 n0 q0,.slice p1 n1 q1,.slice p2 n2 q2,.int .i64 x.1.2.server]]) (by rfl) HROX.out _ dk (by rfl) (HD.out u8 HBu8.out) (by have:=HDL.out;omega) (by omega) HBu8.out.size ?_;intro v13 u9 hrow13 hgr13;have HROY:=Hd hrow13;have HGRY:=Hd hgr13;clear hrow13 hgr13)
     have HBu9:=Hd (HBu8.out.grown HGRY.out HBu8.out.size (fun g hg=>HROX.out.2 g hg))
     gi_wp2_with fail
     go_ret
     refine⟨_,rfl,?_,Z5 HB1.out HBu9.out⟩;have hr:=HROY.out;rw[HFIN.out] at hr;rw[HPUT.out];refine Row.grd (by
      have hl:((l.take k++x::l.drop k).map encG).length=k+1+dk.length:=by rw[HDL.out];simp;omega
      rw[hl];exact hr) (fun c hc=>?_)
     obtain⟨q,_,rfl⟩:=List.mem_map.1 hc;exact⟨encG_len q,encG_one q⟩
   ·gi_wp2_with fail
    obtain⟨u10,hw⟩:=Zq (ua.alloc (.cells #[.int .i64 x.1.2.kind,.slice p0 n0 q0,.slice p1 n1 q1,.slice p2 n2 q2,.int .i64 x.1.2.server] 78));obtain⟨b2,hb2⟩:=Zq ua.heap.size;have hgx:GRd 5 (.slice (some ⟨ua.heap.size,0,none⟩) 1 1) [[.int .i64 x.1.2.kind,.slice p0 n0 q0,.slice p1 n1 q1,.slice p2 n2 q2,.int .i64 x.1.2.server]] (ua.alloc (.cells #[.int .i64 x.1.2.kind,.slice p0 n0 q0,.slice p1 n1 q1,.slice p2 n2 q2,.int .i64 x.1.2.server] 78)):=GRd.new [.int .i64 x.1.2.kind,.slice p0 n0 q0,.slice p1 n1 q1,.slice p2 n2 q2,.int .i64 x.1.2.server] rfl (by simp[Value.oneCell']) ua 78
    have hbd:Below W1.heap.size W1 u10:=by rw[<-hw];exact HBua.out.alloc HBua.out.size _
    have hlt2:b2<u10.heap.size:=by rw[<-hw,<-hb2,World.size_alloc];omega
    rw[hw,hb2] at hgx;rw[hw,hb2];have HGX:=Hd hgx;have HLT:=Hd hlt2;have HBu10:=Hd hbd;refine hK _ _ (fun _=>HCX.out u10 hbd) ?_
    clear hK K hw hb2 hgx hbd hlt2;refine oneH 0 (by rfl) (by kernel_rfl) (fun K hK=>?_)
    gi_wp2_with fail
    obtain⟨u11,hw⟩:=Zq (u10.alloc (.cells #[] 78));obtain⟨bx,hbx⟩:=Zq u10.heap.size;have hrow:=row_emptyRG5 (fun g=>W1.heap.size<=g) u10 HBu10.out.size
    have hbd:Below W1.heap.size W1 u11:=by rw[<-hw];exact HBu10.out.alloc HBu10.out.size _
    have hgx:GRd 5 (.slice (some ⟨b2,0,none⟩) 1 1) [[.int .i64 x.1.2.kind,.slice p0 n0 q0,.slice p1 n1 q1,.slice p2 n2 q2,.int .i64 x.1.2.server]] u11:=by rw[<-hw];exact HGX.out.below (Zr)
    have HNE:Hid (∀g,(Value.slice (some ⟨bx,0,none⟩) 0 0).ownBlock=some g->g≠b2):=fun g hg=>by have:=HLT.out;have h:bx=g:=(by simpa[Value.ownBlock] using hg);omega
    clear HGX;have HGX:=Hd hgx;clear hgx;rw[hw,hbx] at hrow;rw[hw,hbx];have HROW:=Hd hrow;have HBu11:=Hd hbd;refine hK _ _ (fun _=>HCX.out u11 hbd) ?_
    clear hK K hw hbx hrow hbd;refine oneH 4 (by rfl) (by kernel_rfl) (fun K hK=>?_)
    gi_wp2_with (gi_at_builtin;refine Z7 (fun g=>W1.heap.size<=g) 78 _ 5 88 info_redge rfl (by decide) rfl _ _ _ Tryz.underlying31 rfl _ 0 [] (by rfl) HROW.out _ tk (by rfl) (HT.out u11 HBu11.out) (by have:=HTL.out;omega) (by omega) HBu11.out.size ?_;intro v10 u12 hrow10 hgr10)
    have HBu12:=Hd (HBu11.out.grown hgr10 HBu11.out.size (fun g hg=>HROW.out.2 g hg))
    have hrow11:Row (fun g=>W1.heap.size<=g) 78 5 v10 k tk.flatten u12:=by rw[HTL.out,Nat.zero_add,Zm] at hrow10;exact hrow10
    have hgx:=HGX.out.grown75 hgr10 (fun g hg=>HNE.out g hg)
    clear HGX;have HGX:=Hd hgx;clear hgx HNE;clear HROW;have HROW:=Hd hrow11;refine hK _ _ (fun _=>HCX.out u12 HBu12.out) ?_
    clear hK K hrow10 hrow11 hgr10;refine oneH 7 (by rfl) (by kernel_rfl) (fun K hK=>?_)
    gi_wp2_with (gi_at_builtin;refine Z7 (fun g=>W1.heap.size<=g) 78 _ 5 88 info_redge rfl (by decide) rfl _ _ _ Tryz.underlying31 rfl _ k tk (by rfl) HROW.out _ [[.int .i64 x.1.2.kind,.slice p0 n0 q0,.slice p1 n1 q1,.slice p2 n2 q2,.int .i64 x.1.2.server]] (by rfl) HGX.out (by simp;omega) (by omega) HBu12.out.size ?_;intro v12 u13 hrow12 hgr12)
    have HBu13:=Hd (HBu12.out.grown hgr12 HBu12.out.size (fun g hg=>HROW.out.2 g hg))
    have HROX:=Hd hrow12;refine hK _ _ (fun _=>HCX.out u13 HBu13.out) ?_
    clear hK K hrow12 hgr12 HROW HGX;refine oneH 8 (by rfl) (by kernel_rfl) (fun K hK=>?_)
    gi_wp2_with fail
    refine hK _ _ (fun _=>HCX.out u13 HBu13.out) ?_
    clear hK K;refine Z9 (by kernel_rfl) ?_
    gi_wp2_with (gi_at_builtin;refine Z7 (fun g=>W1.heap.size<=g) 78 _ 5 88 info_redge rfl (by decide) rfl _ _ _ Tryz.underlying31 rfl _ (k+1) (tk++[[.int .i64 x.1.2.kind,.slice p0 n0 q0,.slice p1 n1 q1,.slice p2 n2 q2,.int .i64 x.1.2.server]]) (by rfl) HROX.out _ dk (by rfl) (HD.out u13 HBu13.out) (by have:=HDL.out;omega) (by omega) HBu13.out.size ?_;intro v13 u14 hrow13 hgr13;have HROY:=Hd hrow13;have HGRY:=Hd hgr13;clear hrow13 hgr13)
    have HBu14:=Hd (HBu13.out.grown HGRY.out HBu13.out.size (fun g hg=>HROX.out.2 g hg))
    gi_wp2_with fail
    go_ret
    refine⟨_,rfl,?_,Z5 HB1.out HBu14.out⟩;have hr:=HROY.out;rw[HFIN.out] at hr;rw[HPUT.out];refine Row.grd (by
     have hl:((l.take k++x::l.drop k).map encG).length=k+1+dk.length:=by rw[HDL.out];simp;omega
     rw[hl];exact hr) (fun c hc=>?_)
    obtain⟨q,_,rfl⟩:=List.mem_map.1 hc;exact⟨encG_len q,encG_one q⟩
end Go.Proofs.YtgmbefolgppmdaaGreat
