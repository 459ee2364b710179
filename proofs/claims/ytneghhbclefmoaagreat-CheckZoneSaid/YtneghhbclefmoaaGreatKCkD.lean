/- The document's AddFlaw. -/
import Derived.Test.YtneghhbclefmoaaGreatKCkB
import Derived.Test.YtneghhbclefmoaaGreatKSgD
import Derived.Test.YtneghhbclefmoaaGreatKReg
namespace Go.Proofs.YtneghhbclefmoaaGreat
open Go.RowKit Go.Shelf Go.Sort
set_option maxRecDepth 100000
set_option maxHeartbeats 8000000 in
theorem rAdd_any {w w0 : World} (v : Value) (l : List (ElF w)) (x : ElF w) (hb0 : Below w.heap.size w w0) (hv : GRd 3 v (l.map encF) w0) (na : l.length <= 1000) :
  Calls Tryz.prog 90 #[v, .agg (encF x).toArray] w0 (RAddR l x w0) := by
 obtain ⟨ov, cv, e0, hlc, hcm, hno, _⟩ := id hv
 rw [List.length_map] at e0 hlc
 subst e0
 obtain ⟨p0, n0, q0, ex, hro⟩ := x.cells
 rw [ex]
 obtain ⟨W1, hW1⟩ : ∃ W1, w0.alloc (.cells #[.int .i64 x.1.2.kind, .slice p0 n0 q0, .int .i64 x.1.2.type] 160) = W1 := ⟨_, rfl⟩
 have HB1 : Hid (Below w0.heap.size w0 W1) := by show Below _ _ _; rw [<- hW1]; exact (Below.refl _ _).alloc (Nat.le_refl _) _
 have HBK : Hid (Blk w0.heap.size #[.int .i64 x.1.2.kind, .slice p0 n0 q0, .int .i64 x.1.2.type] 160 W1) := by show Blk _ _ _ _; rw [<- hW1]; exact Blk.new w0 _ _
 have HCX : Hid (∀ W', Below W1.heap.size W1 W' -> Cs [(⟨w0.heap.size, 0, none⟩, .int .i64 x.1.2.kind), (⟨w0.heap.size, 1, none⟩, .slice p0 n0 q0), (⟨w0.heap.size, 2, none⟩, .int .i64 x.1.2.type)] W') := fun W' hW => ⟨(HBK.out.below hW).cell 0, (HBK.out.below hW).cell 1, (HBK.out.below hW).cell 2, trivial⟩
 have hxr : FlRd [.int .i64 x.1.2.kind, .slice p0 n0 q0, .int .i64 x.1.2.type] x.1.2 w := by have h := x.2.1; rw [show x.1.1 = _ from ex] at h; exact h
 have HCMP : Hid (∀ (y : ElF w) (cs : List Value), encF y = cs -> ∀ W', Below W1.heap.size W1 W' -> Calls Tryz.prog 135 #[.agg cs.toArray, .agg #[.int .i64 x.1.2.kind, .slice p0 n0 q0, .int .i64 x.1.2.type]] W' (Gives (.int .i64 (Ck.cmp y.1.2 x.1.2)) W')) := fun y cs hy W' hW => by
  have hyr : FlRd cs y.1.2 w := by have h := y.2.1; rw [show y.1.1 = _ from hy] at h; exact h
  exact refCompareFlaw_any cs [.int .i64 x.1.2.kind, .slice p0 n0 q0, .int .i64 x.1.2.type] y.1.2 x.1.2 W' (hyr.below (below5 hb0 (below5 HB1.out hW))) (hxr.below (below5 hb0 (below5 HB1.out hW))) y.2.2 x.2.2
 have HV := Lib.hid hv
 have HEX := Lib.hid ex
 have HNO := Lib.hid hno
 have HCM := Lib.hid hcm
 have HW1 := Lib.hid hW1
 have lz : (l.length : Int) <= 1000 := by omega
 clear hv hb0 hro hxr ex hno hcm hW1
 refine (callsIn_wide (n := 0)).1 ?_
 refine callsIn_of_wp Tryz.func90 rfl trivial ?_ rfl
 simp only [Tryz.ntmps90, List.size_toArray, List.length_cons, List.length_nil, Nat.reduceAdd, Nat.reduceSub, Array.replicate_succ, Array.replicate_zero, List.push_toArray, List.append_toArray, List.nil_append, List.cons_append]
 gi_wp2_with fail
 rw [HW1.out]
 clear HW1
 gi_loopw [5] (fun vi W => ∃ k : Nat, k <= l.length /\ vi = .int .i64 k /\ Hid (∀ j (hj : j < l.length), j < k -> Ck.cmp l[j].1.2 x.1.2 < 0) /\ Below W1.heap.size W1 W) (fun vi _ => l.length - (intOf vi).toNat)
 case atStart => exact ⟨0, Nat.zero_le _, rfl, fun j _ h => by omega, Below.refl _ _⟩
 case round =>
  obtain ⟨k, hk, rfl, HF, hb⟩ := hrel
  have HB := Lib.hid hb
  clear hb
  obtain ⟨tk, htk⟩ : ∃ t, (l.map encF).take k = t := ⟨_, rfl⟩
  obtain ⟨dk, hdk⟩ : ∃ t, (l.map encF).drop k = t := ⟨_, rfl⟩
  have htl : tk.length = k := by rw [<- htk, List.length_take, List.length_map]; omega
  have hdl : dk.length = l.length - k := by rw [<- hdk, List.length_drop, List.length_map]
  have HTL := Lib.hid htl
  have HDL := Lib.hid hdl
  obtain ⟨ot, hot⟩ : ∃ ot, (if cv = k then ov else ov.map (·.add (k * 3))) = ot := ⟨_, rfl⟩
  have HT : Hid (∀ W', Below W1.heap.size W1 W' -> GRd 3 (.slice ov k cv) tk W') := fun W' hW => by
   rw [<- htk]
   exact (HV.out.below (below5 HB1.out hW)).take k cv hk (by omega) (Nat.le_refl _) HNO.out
  have HD : Hid (∀ W', Below W1.heap.size W1 W' -> GRd 3 (.slice ot (l.length - k) (cv - k)) dk W') := fun W' hW => by
   rw [<- hot, <- hdk]
   by_cases hc : cv = k
   ·rw [if_pos hc]
    have h2 := (HV.out.below (below5 HB1.out hW)).drop0 k hk hc
    rw [show cv - k = 0 by omega]; exact h2
   ·rw [if_neg hc]; exact (HV.out.below (below5 HB1.out hW)).drop k hk
  have HFIN : Hid (tk ++ [[.int .i64 x.1.2.kind, .slice p0 n0 q0, .int .i64 x.1.2.type]] ++ dk = (l.take k ++ x :: l.drop k).map encF) := by
   show _ = _
   rw [<- htk, <- hdk, List.map_append, List.map_cons, HEX.out, List.map_take, List.map_drop]; simp
  clear htk hdk htl hdl
  by_cases hlt : k < l.length
  ·have hlz : (k : Int) < (l.length : Int) := by omega
   obtain ⟨y, hy⟩ : ∃ y, l[k] = y := ⟨_, rfl⟩
   obtain ⟨r0, k0, t0, ey, _⟩ := y.cells
   obtain ⟨ga, rfl, _⟩ := HV.out.elF _ (Below.refl _ _) k hlt _ _ _ (by rw [hy]; exact ey)
   obtain ⟨ea, hea⟩ : ∃ e, ga.add (k * 3) = e := ⟨_, rfl⟩
   have hck : ¬ cv = k := by omega
   have hots : ot = some ea := by rw [<- hot, if_neg hck, <- hea]; rfl
   clear hot
   subst hots
   have HCS : Hid (∀ W', Below W1.heap.size W1 W' -> Cs [(⟨w0.heap.size, 0, none⟩, .int .i64 x.1.2.kind), (⟨w0.heap.size, 1, none⟩, .slice p0 n0 q0), (⟨w0.heap.size, 2, none⟩, .int .i64 x.1.2.type), (ea, .int .i64 y.1.2.kind), (⟨ea.block, ea.off + 1, none⟩, .slice r0 k0 t0), (⟨ea.block, ea.off + 2, none⟩, .int .i64 y.1.2.type)] W') := fun W' hW => by
    obtain ⟨a, ha, c0, c1, c2⟩ := HV.out.elF _ (below5 HB1.out hW) k hlt _ _ _ (by rw [hy]; exact ey)
    cases ha
    rw [hea] at c0 c1 c2
    obtain ⟨x0, x1, x2, _⟩ := HCX.out W' hW
    exact ⟨x0, x1, x2, c0, c1, c2, trivial⟩
   obtain ⟨z, hz⟩ : ∃ z, Ck.cmp y.1.2 x.1.2 = z := ⟨_, rfl⟩
   have HC2 : Hid (∀ W', Below W1.heap.size W1 W' -> Calls Tryz.prog 135 #[.agg #[.int .i64 y.1.2.kind, .slice r0 k0 t0, .int .i64 y.1.2.type], .agg #[.int .i64 x.1.2.kind, .slice p0 n0 q0, .int .i64 x.1.2.type]] W' (Gives (.int .i64 z) W')) := fun W' hW => by
    have h := HCMP.out y _ ey W' hW
    rw [hz] at h; exact h
   have HZ : Hid (∀ h : k < l.length, Ck.cmp l[k].1.2 x.1.2 = z) := fun h => by rw [hy]; exact hz
   clear hy ey hz
   gi_wp2_with fail
   refine drawnH (List.range 13) (Cs [(⟨w0.heap.size, 0, none⟩, .int .i64 x.1.2.kind), (⟨w0.heap.size, 1, none⟩, .slice p0 n0 q0), (⟨w0.heap.size, 2, none⟩, .int .i64 x.1.2.type), (ea, .int .i64 y.1.2.kind), (⟨ea.block, ea.off + 1, none⟩, .slice r0 k0 t0), (⟨ea.block, ea.off + 2, none⟩, .int .i64 y.1.2.type)]) 13 rfl (by kernel_rfl) ?_
   intro wa hwwa
   have HBA : Hid (Below W1.heap.size W1 wa) := by subst hwwa; exact HB.out.drew
   have hS := HCS.out wa HBA.out
   clear hwwa
   refine tH 0 ?qaav0 hS (fun w1 ⟨x0, x1, x2, y0, y1, y2, _⟩ => ?qaay0) ?_
   case qaay0 => go_simp; try rfl
   refine tH 1 ?qaav1 hS (fun w1 ⟨x0, x1, x2, y0, y1, y2, _⟩ => ?qaay1) ?_
   case qaay1 => go_simp; try rfl
   refine tH 2 ?qaav2 hS (fun w1 ⟨x0, x1, x2, y0, y1, y2, _⟩ => ?qaay2) ?_
   case qaay2 => go_simp; try rfl
   refine tH 3 ?qaav3 hS (fun w1 ⟨x0, x1, x2, y0, y1, y2, _⟩ => ?qaay3) ?_
   case qaay3 => go_simp; try rfl
   refine tH 4 ?qaav4 hS (fun w1 ⟨x0, x1, x2, y0, y1, y2, _⟩ => ?qaay4) ?_
   case qaay4 => go_simp; try rfl
   refine tH 5 ?qaav5 hS (fun w1 ⟨x0, x1, x2, y0, y1, y2, _⟩ => ?qaay5) ?_
   case qaay5 => go_simp; try rfl
   refine tH 6 ?qaav6 hS (fun w1 ⟨x0, x1, x2, y0, y1, y2, _⟩ => ?qaay6) ?_
   case qaay6 => go_simp; try rfl
   refine tH 7 ?qaav7 hS (fun w1 ⟨x0, x1, x2, y0, y1, y2, _⟩ => ?qaay7) ?_
   case qaay7 => go_simp; try rfl
   refine tH 8 ?qaav8 hS (fun w1 ⟨x0, x1, x2, y0, y1, y2, _⟩ => ?qaay8) ?_
   case qaay8 => go_simp; try rfl
   refine tH 9 ?qaav9 hS (fun w1 ⟨x0, x1, x2, y0, y1, y2, _⟩ => ?qaay9) ?_
   case qaay9 => go_simp; try rfl
   simp only [Act.put, List.setIfInBounds_toArray, List.set_cons_succ, List.set_cons_zero]
   refine oneH 10 (by rfl) (by kernel_rfl) (fun K hK => ?_)
   gi_wp2_with (gi_at_call 135; refine (callsIn_wide.2 (HC2.out wa HBA.out)).mono ?_; rintro e9 wb ⟨rfl, b9⟩)
   have HBB := Lib.hid (below5 HBA.out b9)
   refine hK _ _ (fun _ => HCS.out wb HBB.out) ?_
   clear hK K b9
   replace hS := HCS.out wb HBB.out
   refine tH 11 ?qabv11 hS (fun w1 ⟨x0, x1, x2, y0, y1, y2, _⟩ => ?qaby11) ?_
   case qaby11 => go_simp; try rfl
   refine tH 12 ?qabv12 hS (fun w1 ⟨x0, x1, x2, y0, y1, y2, _⟩ => ?qaby12) ?_
   case qaby12 => go_simp; try rfl
   simp only [Act.put, List.setIfInBounds_toArray, List.set_cons_succ, List.set_cons_zero]
   refine doneH (by kernel_rfl) ?_
   clear hS
   by_cases hz0 : z < 0
   ·gi_wp2_with fail
    refine ⟨⟨k + 1, hlt, by go_num, ?_, HBB.out⟩, by simp [intOf] <;> omega⟩
    show ∀ j (hj : j < l.length), j < k + 1 -> _
    intro j hj hjk
    by_cases hjl : j < k
    ·exact HF.out j hj hjl
    ·obtain rfl : j = k := by omega
     rw [HZ.out hj]; exact hz0
   ·have HNL : Hid (∀ h : k < l.length, 0 <= Ck.cmp l[k].1.2 x.1.2) := fun h => by rw [HZ.out h]; omega
    gi_wp2_with fail
    refine drawnH (List.range 13) (Cs [(⟨w0.heap.size, 0, none⟩, .int .i64 x.1.2.kind), (⟨w0.heap.size, 1, none⟩, .slice p0 n0 q0), (⟨w0.heap.size, 2, none⟩, .int .i64 x.1.2.type), (ea, .int .i64 y.1.2.kind), (⟨ea.block, ea.off + 1, none⟩, .slice r0 k0 t0), (⟨ea.block, ea.off + 2, none⟩, .int .i64 y.1.2.type)]) 13 rfl (by kernel_rfl) ?_
    intro wc hwwc
    have HBC : Hid (Below W1.heap.size W1 wc) := by subst hwwc; exact HBB.out.drew
    have hS := HCS.out wc HBC.out
    clear hwwc
    refine tH 0 ?qbav0 hS (fun w1 ⟨x0, x1, x2, y0, y1, y2, _⟩ => ?qbay0) ?_
    case qbay0 => go_simp; try rfl
    refine tH 1 ?qbav1 hS (fun w1 ⟨x0, x1, x2, y0, y1, y2, _⟩ => ?qbay1) ?_
    case qbay1 => go_simp; try rfl
    refine tH 2 ?qbav2 hS (fun w1 ⟨x0, x1, x2, y0, y1, y2, _⟩ => ?qbay2) ?_
    case qbay2 => go_simp; try rfl
    refine tH 3 ?qbav3 hS (fun w1 ⟨x0, x1, x2, y0, y1, y2, _⟩ => ?qbay3) ?_
    case qbay3 => go_simp; try rfl
    refine tH 4 ?qbav4 hS (fun w1 ⟨x0, x1, x2, y0, y1, y2, _⟩ => ?qbay4) ?_
    case qbay4 => go_simp; try rfl
    refine tH 5 ?qbav5 hS (fun w1 ⟨x0, x1, x2, y0, y1, y2, _⟩ => ?qbay5) ?_
    case qbay5 => go_simp; try rfl
    refine tH 6 ?qbav6 hS (fun w1 ⟨x0, x1, x2, y0, y1, y2, _⟩ => ?qbay6) ?_
    case qbay6 => go_simp; try rfl
    refine tH 7 ?qbav7 hS (fun w1 ⟨x0, x1, x2, y0, y1, y2, _⟩ => ?qbay7) ?_
    case qbay7 => go_simp; try rfl
    refine tH 8 ?qbav8 hS (fun w1 ⟨x0, x1, x2, y0, y1, y2, _⟩ => ?qbay8) ?_
    case qbay8 => go_simp; try rfl
    refine tH 9 ?qbav9 hS (fun w1 ⟨x0, x1, x2, y0, y1, y2, _⟩ => ?qbay9) ?_
    case qbay9 => go_simp; try rfl
    simp only [Act.put, List.setIfInBounds_toArray, List.set_cons_succ, List.set_cons_zero]
    refine oneH 10 (by rfl) (by kernel_rfl) (fun K hK => ?_)
    gi_wp2_with (gi_at_call 135; refine (callsIn_wide.2 (HC2.out wc HBC.out)).mono ?_; rintro e9 wd ⟨rfl, b9⟩)
    have HBD := Lib.hid (below5 HBC.out b9)
    refine hK _ _ (fun _ => HCS.out wd HBD.out) ?_
    clear hK K b9
    replace hS := HCS.out wd HBD.out
    refine tH 11 ?qbbv11 hS (fun w1 ⟨x0, x1, x2, y0, y1, y2, _⟩ => ?qbby11) ?_
    case qbby11 => go_simp; try rfl
    refine tH 12 ?qbbv12 hS (fun w1 ⟨x0, x1, x2, y0, y1, y2, _⟩ => ?qbby12) ?_
    case qbby12 => go_simp; try rfl
    simp only [Act.put, List.setIfInBounds_toArray, List.set_cons_succ, List.set_cons_zero]
    refine doneH (by kernel_rfl) ?_
    clear hS
    by_cases he : z = 0
    ·subst he
     gi_wp2_with fail
     go_ret
     refine ⟨_, rfl, ?_, below5 HB1.out HBD.out⟩
     rw [putE_at x l k hk HF.out (fun h => by have := HNL.out h; omega), if_pos ⟨hlt, HZ.out hlt⟩]
     exact HV.out.below (below5 HB1.out HBD.out)
    ·have heb : (z == 0) = false := by rw [beq_eq_false_iff_ne]; exact he
     have HPUT : Hid (putE x l = l.take k ++ x :: l.drop k) := by show _ = _; rw [putE_at x l k hk HF.out (fun h => by have := HNL.out h; omega), if_neg (by rintro ⟨h, e⟩; rw [HZ.out h] at e; exact he e)]
     gi_wp2_with fail
     refine drawnH (List.range 9) (Cs [(⟨w0.heap.size, 0, none⟩, .int .i64 x.1.2.kind), (⟨w0.heap.size, 1, none⟩, .slice p0 n0 q0), (⟨w0.heap.size, 2, none⟩, .int .i64 x.1.2.type)]) 9 rfl (by kernel_rfl) ?_
     intro ua hwa
     have HBua : Hid (Below W1.heap.size W1 ua) := by subst hwa; exact HBD.out.drew
     have hS := HCX.out ua HBua.out
     clear hwa
     refine tH 1 ?qcav1 hS (fun w1 ⟨x0, x1, x2, _⟩ => ?qcay1) ?_
     case qcay1 => go_simp; try rfl
     refine tH 2 ?qcav2 hS (fun w1 ⟨x0, x1, x2, _⟩ => ?qcay2) ?_
     case qcay2 => go_simp; try rfl
     refine tH 3 ?qcav3 hS (fun w1 ⟨x0, x1, x2, _⟩ => ?qcay3) ?_
     case qcay3 => (go_simp; try first | rfl | (rw [if_pos (by omega)]) | (rw [if_neg (by omega)]) | (rw [if_neg (by simp; omega)]) | (split <;> first | (exfalso; omega) | rfl))
     refine tH 5 ?qcav5 hS (fun w1 ⟨x0, x1, x2, _⟩ => ?qcay5) ?_
     case qcay5 => go_simp; try rfl
     simp only [Act.put, List.setIfInBounds_toArray, List.set_cons_succ, List.set_cons_zero]
     refine twoH2 0 6 (by rfl) (by rfl) (by kernel_rfl) (fun K hK => ?_) (fun K hK => ?_)
     ·gi_wp2_with fail
      obtain ⟨u1, hw⟩ : ∃ W, ua.alloc (.cells #[] 160) = W := ⟨_, rfl⟩
      obtain ⟨bx, hbx⟩ : ∃ b, ua.heap.size = b := ⟨_, rfl⟩
      have hrow := row_emptyRF (fun g => W1.heap.size <= g) ua HBua.out.size
      have hbd : Below W1.heap.size W1 u1 := by rw [<- hw]; exact HBua.out.alloc HBua.out.size _
      rw [hw, hbx] at hrow
      rw [hw, hbx]
      have HROW := Lib.hid hrow
      have HBu1 := Lib.hid hbd
      refine hK _ _ (fun _ => HCX.out u1 hbd) ?_
      clear hK K hw hbx hrow hbd
      refine twoH2 4 6 (by rfl) (by rfl) (by kernel_rfl) (fun K hK => ?_) (fun K hK => ?_)
      ·gi_wp2_with (gi_at_builtin; refine append_g (fun g => W1.heap.size <= g) 160 _ 3 40 info_rfl rfl (by decide) rfl _ _ _ Tryz.underlying81 rfl _ 0 [] (by rfl) HROW.out _ tk (by rfl) (HT.out u1 HBu1.out) (by have := HTL.out; omega) (by omega) HBu1.out.size ?_; intro v10 u2 hrow10 hgr10)
       have HBu2 := Lib.hid (HBu1.out.grown hgr10 HBu1.out.size (fun g hg => HROW.out.2 g hg))
       have hrow11 : Row (fun g => W1.heap.size <= g) 160 3 v10 k tk.flatten u2 := by rw [HTL.out, Nat.zero_add, List.nil_append] at hrow10; exact hrow10
       clear HROW
       have HROW := Lib.hid hrow11
       refine hK _ _ (fun _ => HCX.out u2 HBu2.out) ?_
       clear hK K hrow10 hrow11 hgr10
       refine oneH 6 (by rfl) (by kernel_rfl) (fun K hK => ?_)
       gi_wp2_with fail
       obtain ⟨u3, hw⟩ : ∃ W, u2.alloc (.cells #[.int .i64 x.1.2.kind, .slice p0 n0 q0, .int .i64 x.1.2.type] 160) = W := ⟨_, rfl⟩
       obtain ⟨b2, hb2⟩ : ∃ b, u2.heap.size = b := ⟨_, rfl⟩
       have hgx : GRd 3 (.slice (some ⟨u2.heap.size, 0, none⟩) 1 1) [[.int .i64 x.1.2.kind, .slice p0 n0 q0, .int .i64 x.1.2.type]] (u2.alloc (.cells #[.int .i64 x.1.2.kind, .slice p0 n0 q0, .int .i64 x.1.2.type] 160)) := GRd.new [.int .i64 x.1.2.kind, .slice p0 n0 q0, .int .i64 x.1.2.type] rfl (by simp [Value.oneCell']) u2 160
       have hbd : Below W1.heap.size W1 u3 := by rw [<- hw]; exact HBu2.out.alloc HBu2.out.size _
       have hlt2 : b2 < u3.heap.size := by rw [<- hw, <- hb2, World.size_alloc]; omega
       have HNE : Hid (∀ g, Value.ownBlock v10 = some g -> g ≠ b2) := fun g hg => by have h := HROW.out.ltH hg; omega
       have hrow' := HROW.out.alloc (.cells #[.int .i64 x.1.2.kind, .slice p0 n0 q0, .int .i64 x.1.2.type] 160)
       rw [hw] at hrow'
       clear HROW
       have HROW := Lib.hid hrow'
       clear hrow'
       rw [hw, hb2] at hgx
       rw [hw, hb2]
       have HGX := Lib.hid hgx
       have HLT := Lib.hid hlt2
       have HBu3 := Lib.hid hbd
       refine hK _ _ (fun _ => HCX.out u3 hbd) ?_
       clear hK K hw hb2 hgx hbd hlt2
       refine oneH 7 (by rfl) (by kernel_rfl) (fun K hK => ?_)
       gi_wp2_with (gi_at_builtin; refine append_g (fun g => W1.heap.size <= g) 160 _ 3 40 info_rfl rfl (by decide) rfl _ _ _ Tryz.underlying81 rfl _ k tk (by rfl) HROW.out _ [[.int .i64 x.1.2.kind, .slice p0 n0 q0, .int .i64 x.1.2.type]] (by rfl) HGX.out (by simp; omega) (by omega) HBu3.out.size ?_; intro v12 u4 hrow12 hgr12)
       have HBu4 := Lib.hid (HBu3.out.grown hgr12 HBu3.out.size (fun g hg => HROW.out.2 g hg))
       have HROX := Lib.hid hrow12
       refine hK _ _ (fun _ => HCX.out u4 HBu4.out) ?_
       clear hK K hrow12 hgr12 HROW HGX
       refine oneH 8 (by rfl) (by kernel_rfl) (fun K hK => ?_)
       gi_wp2_with fail
       refine hK _ _ (fun _ => HCX.out u4 HBu4.out) ?_
       clear hK K
       refine doneH (by kernel_rfl) ?_
       gi_wp2_with (gi_at_builtin; refine append_g (fun g => W1.heap.size <= g) 160 _ 3 40 info_rfl rfl (by decide) rfl _ _ _ Tryz.underlying81 rfl _ (k + 1) (tk ++ [[.int .i64 x.1.2.kind, .slice p0 n0 q0, .int .i64 x.1.2.type]]) (by rfl) HROX.out _ dk (by rfl) (HD.out u4 HBu4.out) (by have := HDL.out; omega) (by omega) HBu4.out.size ?_; intro v13 u5 hrow13 hgr13; have HROY := Lib.hid hrow13; have HGRY := Lib.hid hgr13; clear hrow13 hgr13)
       have HBu5 := Lib.hid (HBu4.out.grown HGRY.out HBu4.out.size (fun g hg => HROX.out.2 g hg))
       gi_wp2_with fail
       go_ret
       refine ⟨_, rfl, ?_, below5 HB1.out HBu5.out⟩
       have hr := HROY.out
       rw [HFIN.out] at hr
       rw [HPUT.out]
       refine Row.grd (by
        have hl : ((l.take k ++ x :: l.drop k).map encF).length = k + 1 + dk.length := by rw [HDL.out]; simp; omega
        rw [hl]; exact hr) (fun c hc => ?_)
       obtain ⟨q, _, rfl⟩ := List.mem_map.1 hc
       exact ⟨encF_len q, encF_one q⟩
      ·gi_wp2_with fail
       obtain ⟨u6, hw⟩ : ∃ W, u1.alloc (.cells #[.int .i64 x.1.2.kind, .slice p0 n0 q0, .int .i64 x.1.2.type] 160) = W := ⟨_, rfl⟩
       obtain ⟨b2, hb2⟩ : ∃ b, u1.heap.size = b := ⟨_, rfl⟩
       have hgx : GRd 3 (.slice (some ⟨u1.heap.size, 0, none⟩) 1 1) [[.int .i64 x.1.2.kind, .slice p0 n0 q0, .int .i64 x.1.2.type]] (u1.alloc (.cells #[.int .i64 x.1.2.kind, .slice p0 n0 q0, .int .i64 x.1.2.type] 160)) := GRd.new [.int .i64 x.1.2.kind, .slice p0 n0 q0, .int .i64 x.1.2.type] rfl (by simp [Value.oneCell']) u1 160
       have hbd : Below W1.heap.size W1 u6 := by rw [<- hw]; exact HBu1.out.alloc HBu1.out.size _
       have hlt2 : b2 < u6.heap.size := by rw [<- hw, <- hb2, World.size_alloc]; omega
       have HNE : Hid (∀ g, Value.ownBlock (Value.slice (some ⟨bx, 0, none⟩) 0 0) = some g -> g ≠ b2) := fun g hg => by have h := HROW.out.ltH hg; omega
       have hrow' := HROW.out.alloc (.cells #[.int .i64 x.1.2.kind, .slice p0 n0 q0, .int .i64 x.1.2.type] 160)
       rw [hw] at hrow'
       clear HROW
       have HROW := Lib.hid hrow'
       clear hrow'
       rw [hw, hb2] at hgx
       rw [hw, hb2]
       have HGX := Lib.hid hgx
       have HLT := Lib.hid hlt2
       have HBu6 := Lib.hid hbd
       refine hK _ _ (fun _ => HCX.out u6 hbd) ?_
       clear hK K hw hb2 hgx hbd hlt2
       refine oneH 4 (by rfl) (by kernel_rfl) (fun K hK => ?_)
       gi_wp2_with (gi_at_builtin; refine append_g (fun g => W1.heap.size <= g) 160 _ 3 40 info_rfl rfl (by decide) rfl _ _ _ Tryz.underlying81 rfl _ 0 [] (by rfl) HROW.out _ tk (by rfl) (HT.out u6 HBu6.out) (by have := HTL.out; omega) (by omega) HBu6.out.size ?_; intro v10 u7 hrow10 hgr10)
       have HBu7 := Lib.hid (HBu6.out.grown hgr10 HBu6.out.size (fun g hg => HROW.out.2 g hg))
       have hrow11 : Row (fun g => W1.heap.size <= g) 160 3 v10 k tk.flatten u7 := by rw [HTL.out, Nat.zero_add, List.nil_append] at hrow10; exact hrow10
       have hgx := HGX.out.grown75 hgr10 (fun g hg => HNE.out g hg)
       clear HGX
       have HGX := Lib.hid hgx
       clear hgx HNE
       clear HROW
       have HROW := Lib.hid hrow11
       refine hK _ _ (fun _ => HCX.out u7 HBu7.out) ?_
       clear hK K hrow10 hrow11 hgr10
       refine oneH 7 (by rfl) (by kernel_rfl) (fun K hK => ?_)
       gi_wp2_with (gi_at_builtin; refine append_g (fun g => W1.heap.size <= g) 160 _ 3 40 info_rfl rfl (by decide) rfl _ _ _ Tryz.underlying81 rfl _ k tk (by rfl) HROW.out _ [[.int .i64 x.1.2.kind, .slice p0 n0 q0, .int .i64 x.1.2.type]] (by rfl) HGX.out (by simp; omega) (by omega) HBu7.out.size ?_; intro v12 u8 hrow12 hgr12)
       have HBu8 := Lib.hid (HBu7.out.grown hgr12 HBu7.out.size (fun g hg => HROW.out.2 g hg))
       have HROX := Lib.hid hrow12
       refine hK _ _ (fun _ => HCX.out u8 HBu8.out) ?_
       clear hK K hrow12 hgr12 HROW HGX
       refine oneH 8 (by rfl) (by kernel_rfl) (fun K hK => ?_)
       gi_wp2_with fail
       refine hK _ _ (fun _ => HCX.out u8 HBu8.out) ?_
       clear hK K
       refine doneH (by kernel_rfl) ?_
       gi_wp2_with (gi_at_builtin; refine append_g (fun g => W1.heap.size <= g) 160 _ 3 40 info_rfl rfl (by decide) rfl _ _ _ Tryz.underlying81 rfl _ (k + 1) (tk ++ [[.int .i64 x.1.2.kind, .slice p0 n0 q0, .int .i64 x.1.2.type]]) (by rfl) HROX.out _ dk (by rfl) (HD.out u8 HBu8.out) (by have := HDL.out; omega) (by omega) HBu8.out.size ?_; intro v13 u9 hrow13 hgr13; have HROY := Lib.hid hrow13; have HGRY := Lib.hid hgr13; clear hrow13 hgr13)
       have HBu9 := Lib.hid (HBu8.out.grown HGRY.out HBu8.out.size (fun g hg => HROX.out.2 g hg))
       gi_wp2_with fail
       go_ret
       refine ⟨_, rfl, ?_, below5 HB1.out HBu9.out⟩
       have hr := HROY.out
       rw [HFIN.out] at hr
       rw [HPUT.out]
       refine Row.grd (by
        have hl : ((l.take k ++ x :: l.drop k).map encF).length = k + 1 + dk.length := by rw [HDL.out]; simp; omega
        rw [hl]; exact hr) (fun c hc => ?_)
       obtain ⟨q, _, rfl⟩ := List.mem_map.1 hc
       exact ⟨encF_len q, encF_one q⟩
     ·gi_wp2_with fail
      obtain ⟨u10, hw⟩ : ∃ W, ua.alloc (.cells #[.int .i64 x.1.2.kind, .slice p0 n0 q0, .int .i64 x.1.2.type] 160) = W := ⟨_, rfl⟩
      obtain ⟨b2, hb2⟩ : ∃ b, ua.heap.size = b := ⟨_, rfl⟩
      have hgx : GRd 3 (.slice (some ⟨ua.heap.size, 0, none⟩) 1 1) [[.int .i64 x.1.2.kind, .slice p0 n0 q0, .int .i64 x.1.2.type]] (ua.alloc (.cells #[.int .i64 x.1.2.kind, .slice p0 n0 q0, .int .i64 x.1.2.type] 160)) := GRd.new [.int .i64 x.1.2.kind, .slice p0 n0 q0, .int .i64 x.1.2.type] rfl (by simp [Value.oneCell']) ua 160
      have hbd : Below W1.heap.size W1 u10 := by rw [<- hw]; exact HBua.out.alloc HBua.out.size _
      have hlt2 : b2 < u10.heap.size := by rw [<- hw, <- hb2, World.size_alloc]; omega
      rw [hw, hb2] at hgx
      rw [hw, hb2]
      have HGX := Lib.hid hgx
      have HLT := Lib.hid hlt2
      have HBu10 := Lib.hid hbd
      refine hK _ _ (fun _ => HCX.out u10 hbd) ?_
      clear hK K hw hb2 hgx hbd hlt2
      refine oneH 0 (by rfl) (by kernel_rfl) (fun K hK => ?_)
      gi_wp2_with fail
      obtain ⟨u11, hw⟩ : ∃ W, u10.alloc (.cells #[] 160) = W := ⟨_, rfl⟩
      obtain ⟨bx, hbx⟩ : ∃ b, u10.heap.size = b := ⟨_, rfl⟩
      have hrow := row_emptyRF (fun g => W1.heap.size <= g) u10 HBu10.out.size
      have hbd : Below W1.heap.size W1 u11 := by rw [<- hw]; exact HBu10.out.alloc HBu10.out.size _
      have hgx : GRd 3 (.slice (some ⟨b2, 0, none⟩) 1 1) [[.int .i64 x.1.2.kind, .slice p0 n0 q0, .int .i64 x.1.2.type]] u11 := by rw [<- hw]; exact HGX.out.below ((Below.refl _ _).alloc (Nat.le_refl _) _)
      have HNE : Hid (∀ g, (Value.slice (some ⟨bx, 0, none⟩) 0 0).ownBlock = some g -> g ≠ b2) := fun g hg => by have := HLT.out; have h : bx = g := (by simpa [Value.ownBlock] using hg); omega
      clear HGX
      have HGX := Lib.hid hgx
      clear hgx
      rw [hw, hbx] at hrow
      rw [hw, hbx]
      have HROW := Lib.hid hrow
      have HBu11 := Lib.hid hbd
      refine hK _ _ (fun _ => HCX.out u11 hbd) ?_
      clear hK K hw hbx hrow hbd
      refine oneH 4 (by rfl) (by kernel_rfl) (fun K hK => ?_)
      gi_wp2_with (gi_at_builtin; refine append_g (fun g => W1.heap.size <= g) 160 _ 3 40 info_rfl rfl (by decide) rfl _ _ _ Tryz.underlying81 rfl _ 0 [] (by rfl) HROW.out _ tk (by rfl) (HT.out u11 HBu11.out) (by have := HTL.out; omega) (by omega) HBu11.out.size ?_; intro v10 u12 hrow10 hgr10)
      have HBu12 := Lib.hid (HBu11.out.grown hgr10 HBu11.out.size (fun g hg => HROW.out.2 g hg))
      have hrow11 : Row (fun g => W1.heap.size <= g) 160 3 v10 k tk.flatten u12 := by rw [HTL.out, Nat.zero_add, List.nil_append] at hrow10; exact hrow10
      have hgx := HGX.out.grown75 hgr10 (fun g hg => HNE.out g hg)
      clear HGX
      have HGX := Lib.hid hgx
      clear hgx HNE
      clear HROW
      have HROW := Lib.hid hrow11
      refine hK _ _ (fun _ => HCX.out u12 HBu12.out) ?_
      clear hK K hrow10 hrow11 hgr10
      refine oneH 7 (by rfl) (by kernel_rfl) (fun K hK => ?_)
      gi_wp2_with (gi_at_builtin; refine append_g (fun g => W1.heap.size <= g) 160 _ 3 40 info_rfl rfl (by decide) rfl _ _ _ Tryz.underlying81 rfl _ k tk (by rfl) HROW.out _ [[.int .i64 x.1.2.kind, .slice p0 n0 q0, .int .i64 x.1.2.type]] (by rfl) HGX.out (by simp; omega) (by omega) HBu12.out.size ?_; intro v12 u13 hrow12 hgr12)
      have HBu13 := Lib.hid (HBu12.out.grown hgr12 HBu12.out.size (fun g hg => HROW.out.2 g hg))
      have HROX := Lib.hid hrow12
      refine hK _ _ (fun _ => HCX.out u13 HBu13.out) ?_
      clear hK K hrow12 hgr12 HROW HGX
      refine oneH 8 (by rfl) (by kernel_rfl) (fun K hK => ?_)
      gi_wp2_with fail
      refine hK _ _ (fun _ => HCX.out u13 HBu13.out) ?_
      clear hK K
      refine doneH (by kernel_rfl) ?_
      gi_wp2_with (gi_at_builtin; refine append_g (fun g => W1.heap.size <= g) 160 _ 3 40 info_rfl rfl (by decide) rfl _ _ _ Tryz.underlying81 rfl _ (k + 1) (tk ++ [[.int .i64 x.1.2.kind, .slice p0 n0 q0, .int .i64 x.1.2.type]]) (by rfl) HROX.out _ dk (by rfl) (HD.out u13 HBu13.out) (by have := HDL.out; omega) (by omega) HBu13.out.size ?_; intro v13 u14 hrow13 hgr13; have HROY := Lib.hid hrow13; have HGRY := Lib.hid hgr13; clear hrow13 hgr13)
      have HBu14 := Lib.hid (HBu13.out.grown HGRY.out HBu13.out.size (fun g hg => HROX.out.2 g hg))
      gi_wp2_with fail
      go_ret
      refine ⟨_, rfl, ?_, below5 HB1.out HBu14.out⟩
      have hr := HROY.out
      rw [HFIN.out] at hr
      rw [HPUT.out]
      refine Row.grd (by
       have hl : ((l.take k ++ x :: l.drop k).map encF).length = k + 1 + dk.length := by rw [HDL.out]; simp; omega
       rw [hl]; exact hr) (fun c hc => ?_)
      obtain ⟨q, _, rfl⟩ := List.mem_map.1 hc
      exact ⟨encF_len q, encF_one q⟩
  ·have hlz : ¬ ((k : Int) < (l.length : Int)) := by omega
   have hkl : k = l.length := by omega
   have HPUT : Hid (putE x l = l.take k ++ x :: l.drop k) := by show _ = _; rw [putE_at x l k hk HF.out (fun h => absurd h hlt), if_neg (by rintro ⟨h, _⟩; exact hlt h)]
   clear hkl
   gi_wp2_with fail
   refine drawnH (List.range 13) (Cs [(⟨w0.heap.size, 0, none⟩, .int .i64 x.1.2.kind), (⟨w0.heap.size, 1, none⟩, .slice p0 n0 q0), (⟨w0.heap.size, 2, none⟩, .int .i64 x.1.2.type)]) 13 rfl (by kernel_rfl) ?_
   intro wa hwwa
   have HBA : Hid (Below W1.heap.size W1 wa) := by subst hwwa; exact HB.out.drew
   have hS := HCX.out wa HBA.out
   clear hwwa
   refine tH 0 ?qdav0 hS (fun w1 ⟨x0, x1, x2, _⟩ => ?qday0) ?_
   case qday0 => go_simp; try rfl
   refine tH 1 ?qdav1 hS (fun w1 ⟨x0, x1, x2, _⟩ => ?qday1) ?_
   case qday1 => go_simp; try rfl
   refine tH 2 ?qdav2 hS (fun w1 ⟨x0, x1, x2, _⟩ => ?qday2) ?_
   case qday2 => go_simp; try rfl
   refine tH 3 ?qdav3 hS (fun w1 ⟨x0, x1, x2, _⟩ => ?qday3) ?_
   case qday3 => go_simp; try rfl
   refine tH 4 ?qdav4 hS (fun w1 ⟨x0, x1, x2, _⟩ => ?qday4) ?_
   case qday4 => go_simp; try rfl
   simp only [Act.put, List.setIfInBounds_toArray, List.set_cons_succ, List.set_cons_zero]
   refine tU 5 hS ?_
   refine tU 6 hS ?_
   refine tU 7 hS ?_
   refine tU 8 hS ?_
   refine tU 9 hS ?_
   refine tU 10 hS ?_
   refine tU 11 hS ?_
   simp only [Act.put, List.setIfInBounds_toArray, List.set_cons_succ, List.set_cons_zero]
   refine tH 12 ?qdav12 hS (fun w1 ⟨x0, x1, x2, _⟩ => ?qday12) ?_
   case qday12 => go_simp; try rfl
   simp only [Act.put, List.setIfInBounds_toArray, List.set_cons_succ, List.set_cons_zero]
   refine doneH (by kernel_rfl) ?_
   clear hS
   gi_wp2_with fail
   refine drawnH (List.range 13) (Cs [(⟨w0.heap.size, 0, none⟩, .int .i64 x.1.2.kind), (⟨w0.heap.size, 1, none⟩, .slice p0 n0 q0), (⟨w0.heap.size, 2, none⟩, .int .i64 x.1.2.type)]) 13 rfl (by kernel_rfl) ?_
   intro wb hwwb
   have HBB : Hid (Below W1.heap.size W1 wb) := by subst hwwb; exact HBA.out.drew
   have hS := HCX.out wb HBB.out
   clear hwwb
   refine tH 0 ?qeav0 hS (fun w1 ⟨x0, x1, x2, _⟩ => ?qeay0) ?_
   case qeay0 => go_simp; try rfl
   refine tH 1 ?qeav1 hS (fun w1 ⟨x0, x1, x2, _⟩ => ?qeay1) ?_
   case qeay1 => go_simp; try rfl
   refine tH 2 ?qeav2 hS (fun w1 ⟨x0, x1, x2, _⟩ => ?qeay2) ?_
   case qeay2 => go_simp; try rfl
   refine tH 3 ?qeav3 hS (fun w1 ⟨x0, x1, x2, _⟩ => ?qeay3) ?_
   case qeay3 => go_simp; try rfl
   refine tH 4 ?qeav4 hS (fun w1 ⟨x0, x1, x2, _⟩ => ?qeay4) ?_
   case qeay4 => go_simp; try rfl
   simp only [Act.put, List.setIfInBounds_toArray, List.set_cons_succ, List.set_cons_zero]
   refine tU 5 hS ?_
   refine tU 6 hS ?_
   refine tU 7 hS ?_
   refine tU 8 hS ?_
   refine tU 9 hS ?_
   refine tU 10 hS ?_
   refine tU 11 hS ?_
   simp only [Act.put, List.setIfInBounds_toArray, List.set_cons_succ, List.set_cons_zero]
   refine tH 12 ?qeav12 hS (fun w1 ⟨x0, x1, x2, _⟩ => ?qeay12) ?_
   case qeay12 => go_simp; try rfl
   simp only [Act.put, List.setIfInBounds_toArray, List.set_cons_succ, List.set_cons_zero]
   refine doneH (by kernel_rfl) ?_
   clear hS
   gi_wp2_with fail
   refine drawnH (List.range 9) (Cs [(⟨w0.heap.size, 0, none⟩, .int .i64 x.1.2.kind), (⟨w0.heap.size, 1, none⟩, .slice p0 n0 q0), (⟨w0.heap.size, 2, none⟩, .int .i64 x.1.2.type)]) 9 rfl (by kernel_rfl) ?_
   intro ua hwa
   have HBua : Hid (Below W1.heap.size W1 ua) := by subst hwa; exact HBB.out.drew
   have hS := HCX.out ua HBua.out
   clear hwa
   refine tH 1 ?qfav1 hS (fun w1 ⟨x0, x1, x2, _⟩ => ?qfay1) ?_
   case qfay1 => go_simp; try rfl
   refine tH 2 ?qfav2 hS (fun w1 ⟨x0, x1, x2, _⟩ => ?qfay2) ?_
   case qfay2 => go_simp; try rfl
   refine tH 3 ?qfav3 hS (fun w1 ⟨x0, x1, x2, _⟩ => ?qfay3) ?_
   case qfay3 => (go_simp; try first | rfl | (rw [if_pos (by omega)]) | (rw [if_neg (by omega)]) | (rw [if_neg (by simp; omega)]) | (split <;> first | (exfalso; omega) | rfl))
   refine tH 5 ?qfav5 hS (fun w1 ⟨x0, x1, x2, _⟩ => ?qfay5) ?_
   case qfay5 => go_simp; try rfl
   simp only [Act.put, List.setIfInBounds_toArray, List.set_cons_succ, List.set_cons_zero]
   refine twoH2 0 6 (by rfl) (by rfl) (by kernel_rfl) (fun K hK => ?_) (fun K hK => ?_)
   ·gi_wp2_with fail
    obtain ⟨u1, hw⟩ : ∃ W, ua.alloc (.cells #[] 160) = W := ⟨_, rfl⟩
    obtain ⟨bx, hbx⟩ : ∃ b, ua.heap.size = b := ⟨_, rfl⟩
    have hrow := row_emptyRF (fun g => W1.heap.size <= g) ua HBua.out.size
    have hbd : Below W1.heap.size W1 u1 := by rw [<- hw]; exact HBua.out.alloc HBua.out.size _
    rw [hw, hbx] at hrow
    rw [hw, hbx]
    have HROW := Lib.hid hrow
    have HBu1 := Lib.hid hbd
    refine hK _ _ (fun _ => HCX.out u1 hbd) ?_
    clear hK K hw hbx hrow hbd
    refine twoH2 4 6 (by rfl) (by rfl) (by kernel_rfl) (fun K hK => ?_) (fun K hK => ?_)
    ·gi_wp2_with (gi_at_builtin; refine append_g (fun g => W1.heap.size <= g) 160 _ 3 40 info_rfl rfl (by decide) rfl _ _ _ Tryz.underlying81 rfl _ 0 [] (by rfl) HROW.out _ tk (by rfl) (HT.out u1 HBu1.out) (by have := HTL.out; omega) (by omega) HBu1.out.size ?_; intro v10 u2 hrow10 hgr10)
     have HBu2 := Lib.hid (HBu1.out.grown hgr10 HBu1.out.size (fun g hg => HROW.out.2 g hg))
     have hrow11 : Row (fun g => W1.heap.size <= g) 160 3 v10 k tk.flatten u2 := by rw [HTL.out, Nat.zero_add, List.nil_append] at hrow10; exact hrow10
     clear HROW
     have HROW := Lib.hid hrow11
     refine hK _ _ (fun _ => HCX.out u2 HBu2.out) ?_
     clear hK K hrow10 hrow11 hgr10
     refine oneH 6 (by rfl) (by kernel_rfl) (fun K hK => ?_)
     gi_wp2_with fail
     obtain ⟨u3, hw⟩ : ∃ W, u2.alloc (.cells #[.int .i64 x.1.2.kind, .slice p0 n0 q0, .int .i64 x.1.2.type] 160) = W := ⟨_, rfl⟩
     obtain ⟨b2, hb2⟩ : ∃ b, u2.heap.size = b := ⟨_, rfl⟩
     have hgx : GRd 3 (.slice (some ⟨u2.heap.size, 0, none⟩) 1 1) [[.int .i64 x.1.2.kind, .slice p0 n0 q0, .int .i64 x.1.2.type]] (u2.alloc (.cells #[.int .i64 x.1.2.kind, .slice p0 n0 q0, .int .i64 x.1.2.type] 160)) := GRd.new [.int .i64 x.1.2.kind, .slice p0 n0 q0, .int .i64 x.1.2.type] rfl (by simp [Value.oneCell']) u2 160
     have hbd : Below W1.heap.size W1 u3 := by rw [<- hw]; exact HBu2.out.alloc HBu2.out.size _
     have hlt2 : b2 < u3.heap.size := by rw [<- hw, <- hb2, World.size_alloc]; omega
     have HNE : Hid (∀ g, Value.ownBlock v10 = some g -> g ≠ b2) := fun g hg => by have h := HROW.out.ltH hg; omega
     have hrow' := HROW.out.alloc (.cells #[.int .i64 x.1.2.kind, .slice p0 n0 q0, .int .i64 x.1.2.type] 160)
     rw [hw] at hrow'
     clear HROW
     have HROW := Lib.hid hrow'
     clear hrow'
     rw [hw, hb2] at hgx
     rw [hw, hb2]
     have HGX := Lib.hid hgx
     have HLT := Lib.hid hlt2
     have HBu3 := Lib.hid hbd
     refine hK _ _ (fun _ => HCX.out u3 hbd) ?_
     clear hK K hw hb2 hgx hbd hlt2
     refine oneH 7 (by rfl) (by kernel_rfl) (fun K hK => ?_)
     gi_wp2_with (gi_at_builtin; refine append_g (fun g => W1.heap.size <= g) 160 _ 3 40 info_rfl rfl (by decide) rfl _ _ _ Tryz.underlying81 rfl _ k tk (by rfl) HROW.out _ [[.int .i64 x.1.2.kind, .slice p0 n0 q0, .int .i64 x.1.2.type]] (by rfl) HGX.out (by simp; omega) (by omega) HBu3.out.size ?_; intro v12 u4 hrow12 hgr12)
     have HBu4 := Lib.hid (HBu3.out.grown hgr12 HBu3.out.size (fun g hg => HROW.out.2 g hg))
     have HROX := Lib.hid hrow12
     refine hK _ _ (fun _ => HCX.out u4 HBu4.out) ?_
     clear hK K hrow12 hgr12 HROW HGX
     refine oneH 8 (by rfl) (by kernel_rfl) (fun K hK => ?_)
     gi_wp2_with fail
     refine hK _ _ (fun _ => HCX.out u4 HBu4.out) ?_
     clear hK K
     refine doneH (by kernel_rfl) ?_
     gi_wp2_with (gi_at_builtin; refine append_g (fun g => W1.heap.size <= g) 160 _ 3 40 info_rfl rfl (by decide) rfl _ _ _ Tryz.underlying81 rfl _ (k + 1) (tk ++ [[.int .i64 x.1.2.kind, .slice p0 n0 q0, .int .i64 x.1.2.type]]) (by rfl) HROX.out _ dk (by rfl) (HD.out u4 HBu4.out) (by have := HDL.out; omega) (by omega) HBu4.out.size ?_; intro v13 u5 hrow13 hgr13; have HROY := Lib.hid hrow13; have HGRY := Lib.hid hgr13; clear hrow13 hgr13)
     have HBu5 := Lib.hid (HBu4.out.grown HGRY.out HBu4.out.size (fun g hg => HROX.out.2 g hg))
     gi_wp2_with fail
     go_ret
     refine ⟨_, rfl, ?_, below5 HB1.out HBu5.out⟩
     have hr := HROY.out
     rw [HFIN.out] at hr
     rw [HPUT.out]
     refine Row.grd (by
      have hl : ((l.take k ++ x :: l.drop k).map encF).length = k + 1 + dk.length := by rw [HDL.out]; simp; omega
      rw [hl]; exact hr) (fun c hc => ?_)
     obtain ⟨q, _, rfl⟩ := List.mem_map.1 hc
     exact ⟨encF_len q, encF_one q⟩
    ·gi_wp2_with fail
     obtain ⟨u6, hw⟩ : ∃ W, u1.alloc (.cells #[.int .i64 x.1.2.kind, .slice p0 n0 q0, .int .i64 x.1.2.type] 160) = W := ⟨_, rfl⟩
     obtain ⟨b2, hb2⟩ : ∃ b, u1.heap.size = b := ⟨_, rfl⟩
     have hgx : GRd 3 (.slice (some ⟨u1.heap.size, 0, none⟩) 1 1) [[.int .i64 x.1.2.kind, .slice p0 n0 q0, .int .i64 x.1.2.type]] (u1.alloc (.cells #[.int .i64 x.1.2.kind, .slice p0 n0 q0, .int .i64 x.1.2.type] 160)) := GRd.new [.int .i64 x.1.2.kind, .slice p0 n0 q0, .int .i64 x.1.2.type] rfl (by simp [Value.oneCell']) u1 160
     have hbd : Below W1.heap.size W1 u6 := by rw [<- hw]; exact HBu1.out.alloc HBu1.out.size _
     have hlt2 : b2 < u6.heap.size := by rw [<- hw, <- hb2, World.size_alloc]; omega
     have HNE : Hid (∀ g, Value.ownBlock (Value.slice (some ⟨bx, 0, none⟩) 0 0) = some g -> g ≠ b2) := fun g hg => by have h := HROW.out.ltH hg; omega
     have hrow' := HROW.out.alloc (.cells #[.int .i64 x.1.2.kind, .slice p0 n0 q0, .int .i64 x.1.2.type] 160)
     rw [hw] at hrow'
     clear HROW
     have HROW := Lib.hid hrow'
     clear hrow'
     rw [hw, hb2] at hgx
     rw [hw, hb2]
     have HGX := Lib.hid hgx
     have HLT := Lib.hid hlt2
     have HBu6 := Lib.hid hbd
     refine hK _ _ (fun _ => HCX.out u6 hbd) ?_
     clear hK K hw hb2 hgx hbd hlt2
     refine oneH 4 (by rfl) (by kernel_rfl) (fun K hK => ?_)
     gi_wp2_with (gi_at_builtin; refine append_g (fun g => W1.heap.size <= g) 160 _ 3 40 info_rfl rfl (by decide) rfl _ _ _ Tryz.underlying81 rfl _ 0 [] (by rfl) HROW.out _ tk (by rfl) (HT.out u6 HBu6.out) (by have := HTL.out; omega) (by omega) HBu6.out.size ?_; intro v10 u7 hrow10 hgr10)
     have HBu7 := Lib.hid (HBu6.out.grown hgr10 HBu6.out.size (fun g hg => HROW.out.2 g hg))
     have hrow11 : Row (fun g => W1.heap.size <= g) 160 3 v10 k tk.flatten u7 := by rw [HTL.out, Nat.zero_add, List.nil_append] at hrow10; exact hrow10
     have hgx := HGX.out.grown75 hgr10 (fun g hg => HNE.out g hg)
     clear HGX
     have HGX := Lib.hid hgx
     clear hgx HNE
     clear HROW
     have HROW := Lib.hid hrow11
     refine hK _ _ (fun _ => HCX.out u7 HBu7.out) ?_
     clear hK K hrow10 hrow11 hgr10
     refine oneH 7 (by rfl) (by kernel_rfl) (fun K hK => ?_)
     gi_wp2_with (gi_at_builtin; refine append_g (fun g => W1.heap.size <= g) 160 _ 3 40 info_rfl rfl (by decide) rfl _ _ _ Tryz.underlying81 rfl _ k tk (by rfl) HROW.out _ [[.int .i64 x.1.2.kind, .slice p0 n0 q0, .int .i64 x.1.2.type]] (by rfl) HGX.out (by simp; omega) (by omega) HBu7.out.size ?_; intro v12 u8 hrow12 hgr12)
     have HBu8 := Lib.hid (HBu7.out.grown hgr12 HBu7.out.size (fun g hg => HROW.out.2 g hg))
     have HROX := Lib.hid hrow12
     refine hK _ _ (fun _ => HCX.out u8 HBu8.out) ?_
     clear hK K hrow12 hgr12 HROW HGX
     refine oneH 8 (by rfl) (by kernel_rfl) (fun K hK => ?_)
     gi_wp2_with fail
     refine hK _ _ (fun _ => HCX.out u8 HBu8.out) ?_
     clear hK K
     refine doneH (by kernel_rfl) ?_
     gi_wp2_with (gi_at_builtin; refine append_g (fun g => W1.heap.size <= g) 160 _ 3 40 info_rfl rfl (by decide) rfl _ _ _ Tryz.underlying81 rfl _ (k + 1) (tk ++ [[.int .i64 x.1.2.kind, .slice p0 n0 q0, .int .i64 x.1.2.type]]) (by rfl) HROX.out _ dk (by rfl) (HD.out u8 HBu8.out) (by have := HDL.out; omega) (by omega) HBu8.out.size ?_; intro v13 u9 hrow13 hgr13; have HROY := Lib.hid hrow13; have HGRY := Lib.hid hgr13; clear hrow13 hgr13)
     have HBu9 := Lib.hid (HBu8.out.grown HGRY.out HBu8.out.size (fun g hg => HROX.out.2 g hg))
     gi_wp2_with fail
     go_ret
     refine ⟨_, rfl, ?_, below5 HB1.out HBu9.out⟩
     have hr := HROY.out
     rw [HFIN.out] at hr
     rw [HPUT.out]
     refine Row.grd (by
      have hl : ((l.take k ++ x :: l.drop k).map encF).length = k + 1 + dk.length := by rw [HDL.out]; simp; omega
      rw [hl]; exact hr) (fun c hc => ?_)
     obtain ⟨q, _, rfl⟩ := List.mem_map.1 hc
     exact ⟨encF_len q, encF_one q⟩
   ·gi_wp2_with fail
    obtain ⟨u10, hw⟩ : ∃ W, ua.alloc (.cells #[.int .i64 x.1.2.kind, .slice p0 n0 q0, .int .i64 x.1.2.type] 160) = W := ⟨_, rfl⟩
    obtain ⟨b2, hb2⟩ : ∃ b, ua.heap.size = b := ⟨_, rfl⟩
    have hgx : GRd 3 (.slice (some ⟨ua.heap.size, 0, none⟩) 1 1) [[.int .i64 x.1.2.kind, .slice p0 n0 q0, .int .i64 x.1.2.type]] (ua.alloc (.cells #[.int .i64 x.1.2.kind, .slice p0 n0 q0, .int .i64 x.1.2.type] 160)) := GRd.new [.int .i64 x.1.2.kind, .slice p0 n0 q0, .int .i64 x.1.2.type] rfl (by simp [Value.oneCell']) ua 160
    have hbd : Below W1.heap.size W1 u10 := by rw [<- hw]; exact HBua.out.alloc HBua.out.size _
    have hlt2 : b2 < u10.heap.size := by rw [<- hw, <- hb2, World.size_alloc]; omega
    rw [hw, hb2] at hgx
    rw [hw, hb2]
    have HGX := Lib.hid hgx
    have HLT := Lib.hid hlt2
    have HBu10 := Lib.hid hbd
    refine hK _ _ (fun _ => HCX.out u10 hbd) ?_
    clear hK K hw hb2 hgx hbd hlt2
    refine oneH 0 (by rfl) (by kernel_rfl) (fun K hK => ?_)
    gi_wp2_with fail
    obtain ⟨u11, hw⟩ : ∃ W, u10.alloc (.cells #[] 160) = W := ⟨_, rfl⟩
    obtain ⟨bx, hbx⟩ : ∃ b, u10.heap.size = b := ⟨_, rfl⟩
    have hrow := row_emptyRF (fun g => W1.heap.size <= g) u10 HBu10.out.size
    have hbd : Below W1.heap.size W1 u11 := by rw [<- hw]; exact HBu10.out.alloc HBu10.out.size _
    have hgx : GRd 3 (.slice (some ⟨b2, 0, none⟩) 1 1) [[.int .i64 x.1.2.kind, .slice p0 n0 q0, .int .i64 x.1.2.type]] u11 := by rw [<- hw]; exact HGX.out.below ((Below.refl _ _).alloc (Nat.le_refl _) _)
    have HNE : Hid (∀ g, (Value.slice (some ⟨bx, 0, none⟩) 0 0).ownBlock = some g -> g ≠ b2) := fun g hg => by have := HLT.out; have h : bx = g := (by simpa [Value.ownBlock] using hg); omega
    clear HGX
    have HGX := Lib.hid hgx
    clear hgx
    rw [hw, hbx] at hrow
    rw [hw, hbx]
    have HROW := Lib.hid hrow
    have HBu11 := Lib.hid hbd
    refine hK _ _ (fun _ => HCX.out u11 hbd) ?_
    clear hK K hw hbx hrow hbd
    refine oneH 4 (by rfl) (by kernel_rfl) (fun K hK => ?_)
    gi_wp2_with (gi_at_builtin; refine append_g (fun g => W1.heap.size <= g) 160 _ 3 40 info_rfl rfl (by decide) rfl _ _ _ Tryz.underlying81 rfl _ 0 [] (by rfl) HROW.out _ tk (by rfl) (HT.out u11 HBu11.out) (by have := HTL.out; omega) (by omega) HBu11.out.size ?_; intro v10 u12 hrow10 hgr10)
    have HBu12 := Lib.hid (HBu11.out.grown hgr10 HBu11.out.size (fun g hg => HROW.out.2 g hg))
    have hrow11 : Row (fun g => W1.heap.size <= g) 160 3 v10 k tk.flatten u12 := by rw [HTL.out, Nat.zero_add, List.nil_append] at hrow10; exact hrow10
    have hgx := HGX.out.grown75 hgr10 (fun g hg => HNE.out g hg)
    clear HGX
    have HGX := Lib.hid hgx
    clear hgx HNE
    clear HROW
    have HROW := Lib.hid hrow11
    refine hK _ _ (fun _ => HCX.out u12 HBu12.out) ?_
    clear hK K hrow10 hrow11 hgr10
    refine oneH 7 (by rfl) (by kernel_rfl) (fun K hK => ?_)
    gi_wp2_with (gi_at_builtin; refine append_g (fun g => W1.heap.size <= g) 160 _ 3 40 info_rfl rfl (by decide) rfl _ _ _ Tryz.underlying81 rfl _ k tk (by rfl) HROW.out _ [[.int .i64 x.1.2.kind, .slice p0 n0 q0, .int .i64 x.1.2.type]] (by rfl) HGX.out (by simp; omega) (by omega) HBu12.out.size ?_; intro v12 u13 hrow12 hgr12)
    have HBu13 := Lib.hid (HBu12.out.grown hgr12 HBu12.out.size (fun g hg => HROW.out.2 g hg))
    have HROX := Lib.hid hrow12
    refine hK _ _ (fun _ => HCX.out u13 HBu13.out) ?_
    clear hK K hrow12 hgr12 HROW HGX
    refine oneH 8 (by rfl) (by kernel_rfl) (fun K hK => ?_)
    gi_wp2_with fail
    refine hK _ _ (fun _ => HCX.out u13 HBu13.out) ?_
    clear hK K
    refine doneH (by kernel_rfl) ?_
    gi_wp2_with (gi_at_builtin; refine append_g (fun g => W1.heap.size <= g) 160 _ 3 40 info_rfl rfl (by decide) rfl _ _ _ Tryz.underlying81 rfl _ (k + 1) (tk ++ [[.int .i64 x.1.2.kind, .slice p0 n0 q0, .int .i64 x.1.2.type]]) (by rfl) HROX.out _ dk (by rfl) (HD.out u13 HBu13.out) (by have := HDL.out; omega) (by omega) HBu13.out.size ?_; intro v13 u14 hrow13 hgr13; have HROY := Lib.hid hrow13; have HGRY := Lib.hid hgr13; clear hrow13 hgr13)
    have HBu14 := Lib.hid (HBu13.out.grown HGRY.out HBu13.out.size (fun g hg => HROX.out.2 g hg))
    gi_wp2_with fail
    go_ret
    refine ⟨_, rfl, ?_, below5 HB1.out HBu14.out⟩
    have hr := HROY.out
    rw [HFIN.out] at hr
    rw [HPUT.out]
    refine Row.grd (by
     have hl : ((l.take k ++ x :: l.drop k).map encF).length = k + 1 + dk.length := by rw [HDL.out]; simp; omega
     rw [hl]; exact hr) (fun c hc => ?_)
    obtain ⟨q, _, rfl⟩ := List.mem_map.1 hc
    exact ⟨encF_len q, encF_one q⟩
end Go.Proofs.YtneghhbclefmoaaGreat
