/- Flaws of a zone: compared, in both ways. -/
import Derived.Test.YtneghhbclefmoaaGreatKReP
import Derived.Test.YtneghhbclefmoaaGreatKRcB
import Derived.Test.YtneghhbclefmoaaGreatKReg
import Derived.Test.YtneghhbclefmoaaGreatKSrtW
import Derived.Test.YtneghhbclefmoaaGreatKSrtF
import Derived.Test.YtneghhbclefmoaaGreatKSrtG
import Derived.Test.YtneghhbclefmoaaGreatKRcG
import Derived.Test.YtneghhbclefmoaaGreatKGr
section
namespace Go.Proofs.YtneghhbclefmoaaGreat
open Go.RowKit Go.Shelf Go.Sort
set_option maxRecDepth 100000
structure PFl where
 kind : Int
 owner : List (List UInt8)
 type : Int
namespace Ck
def cmp (a b : PFl) : Int := Rc.orI (Nm.cmp a.owner b.owner) (Rc.orI (Nm.sgn a.kind b.kind) (Nm.sgn a.type b.type))
theorem cmp_cm : Rc.Cm cmp := (Rc.name_cm.pull PFl.owner).or ((Rc.sgn_cm.pull PFl.kind).or (Rc.sgn_cm.pull PFl.type))
theorem cmp_first (a b : PFl) : cmp a b = Rc.firstI [Nm.cmp a.owner b.owner, Nm.sgn a.kind b.kind, Nm.sgn a.type b.type] := by
 have h0 : ∀ x : Int, Rc.firstI [x] = x := fun x => by simp only [Rc.firstI]; split <;> omega
 unfold cmp Rc.orI
 rw [Rc.firstI, Rc.firstI, h0]
end Ck
def FlRd (cs : List Value) (f : PFl) (w : World) : Prop := ∃ vo, cs = [.int .i64 f.kind, vo, .int .i64 f.type] /\ Rd vo f.owner w
theorem FlRd.below {cs : List Value} {f : PFl} {w w' : World} (h : FlRd cs f w) (hb : Below w.heap.size w w') : FlRd cs f w' := by
 obtain ⟨vo, e, h⟩ := h
 exact ⟨vo, e, h.below hb⟩
set_option maxHeartbeats 2000000 in
theorem ckCompare_any (va vb : List Value) (a b : PFl) (w : World) (ha : FlRd va a w) (hb : FlRd vb b w) (na : NB a.owner) (nb : NB b.owner) :
  Calls Tryz.prog 44 #[.agg va.toArray, .agg vb.toArray] w (Gives (.int .i64 (Ck.cmp a b)) w) := by
 obtain ⟨ao, rfl, a0⟩ := ha
 obtain ⟨bo, rfl, b0⟩ := hb
 obtain ⟨oa, ca, rfl, _, _⟩ := a0.form
 obtain ⟨ob, cb, rfl, _, _⟩ := b0.form
 obtain ⟨z1, hz1⟩ : ∃ z, Nm.cmp a.owner b.owner = z := ⟨_, rfl⟩
 obtain ⟨z2, hz2⟩ : ∃ z, Nm.sgn a.kind b.kind = z := ⟨_, rfl⟩
 obtain ⟨z3, hz3⟩ : ∃ z, Nm.sgn a.type b.type = z := ⟨_, rfl⟩
 have hr := Ck.cmp_first a b
 rw [hz1, hz2, hz3] at hr
 have HR := Lib.hid hr
 have HZ1 := Lib.hid hz1
 have HZ2 := Lib.hid hz2
 have HZ3 := Lib.hid hz3
 have HAL : Hid (∀ W', Below w.heap.size w W' -> Calls Tryz.prog 83 #[.slice oa a.owner.length ca, .slice ob b.owner.length cb] W' (Gives (.int .i64 z1) W')) := fun W' hW => by
  have h := nCompare_any _ _ a.owner b.owner W' (a0.below hW) (b0.below hW) na nb
  rw [hz1] at h; exact h
 obtain ⟨la, hla⟩ : ∃ la, a.owner.length = la := ⟨_, rfl⟩
 obtain ⟨lb, hlb⟩ : ∃ lb, b.owner.length = lb := ⟨_, rfl⟩
 rw [hla, hlb] at HAL
 rw [hla, hlb]
 have H2 := two_boxes w #[.int .i64 a.kind, .slice oa la ca, .int .i64 a.type] #[.int .i64 b.kind, .slice ob lb cb, .int .i64 b.type] 94 94
 have HTB := Lib.hid H2
 clear a0 b0 na nb hr hz1 hz2 hz3 hla hlb H2
 refine (callsIn_wide (n := 0)).1 ?_
 refine callsIn_of_wp Tryz.func44 rfl trivial ?_ rfl
 simp only [Tryz.ntmps44, List.size_toArray, List.length_cons, List.length_nil, Nat.reduceAdd, Nat.reduceSub, Array.replicate_succ, Array.replicate_zero, List.push_toArray, List.append_toArray, List.nil_append, List.cons_append]
 gi_wp2_with fail
 refine drawnH (List.range 18) (Cs [(⟨w.heap.size, 0, none⟩, Value.int .i64 a.kind), (⟨w.heap.size, 1, none⟩, .slice oa la ca), (⟨w.heap.size, 2, none⟩, .int .i64 a.type), (⟨w.heap.size + 1, 0, none⟩, .int .i64 b.kind), (⟨w.heap.size + 1, 1, none⟩, .slice ob lb cb), (⟨w.heap.size + 1, 2, none⟩, .int .i64 b.type)]) 18 rfl (by kernel_rfl) ?_
 intro w' hw'
 have HK : Hid (Blk w.heap.size #[.int .i64 a.kind, .slice oa la ca, .int .i64 a.type] 94 w' /\ Blk (w.heap.size + 1) #[.int .i64 b.kind, .slice ob lb cb, .int .i64 b.type] 94 w') := by subst hw'; exact HTB.out
 have hb : Below w.heap.size w w' := by subst hw'; exact (((Below.refl _ _).alloc (Nat.le_refl _) _).alloc (by simp) _).drew
 have HCS : Hid (∀ W', Below w'.heap.size w' W' -> Cs [(⟨w.heap.size, 0, none⟩, Value.int .i64 a.kind), (⟨w.heap.size, 1, none⟩, .slice oa la ca), (⟨w.heap.size, 2, none⟩, .int .i64 a.type), (⟨w.heap.size + 1, 0, none⟩, .int .i64 b.kind), (⟨w.heap.size + 1, 1, none⟩, .slice ob lb cb), (⟨w.heap.size + 1, 2, none⟩, .int .i64 b.type)] W') := fun W' hW => ⟨(HK.out.1.below hW).cell 0, (HK.out.1.below hW).cell 1, (HK.out.1.below hW).cell 2, (HK.out.2.below hW).cell 0, (HK.out.2.below hW).cell 1, (HK.out.2.below hW).cell 2, trivial⟩
 have hS := HCS.out w' (Below.refl _ _)
 have HB := Lib.hid hb
 clear hw' HTB HK hb
 refine tH 0 ?qav0 hS (fun w1 ⟨x0, x1, x2, y0, y1, y2, _⟩ => ?qay0) ?_
 case qay0 => go_simp; try rfl
 refine tH 1 ?qav1 hS (fun w1 ⟨x0, x1, x2, y0, y1, y2, _⟩ => ?qay1) ?_
 case qay1 => go_simp; try rfl
 refine tH 2 ?qav2 hS (fun w1 ⟨x0, x1, x2, y0, y1, y2, _⟩ => ?qay2) ?_
 case qay2 => go_simp; try rfl
 refine tH 3 ?qav3 hS (fun w1 ⟨x0, x1, x2, y0, y1, y2, _⟩ => ?qay3) ?_
 case qay3 => go_simp; try rfl
 refine tH 5 ?qav5 hS (fun w1 ⟨x0, x1, x2, y0, y1, y2, _⟩ => ?qay5) ?_
 case qay5 => go_simp; try rfl
 refine tH 6 ?qav6 hS (fun w1 ⟨x0, x1, x2, y0, y1, y2, _⟩ => ?qay6) ?_
 case qay6 => go_simp; try rfl
 refine tH 7 ?qav7 hS (fun w1 ⟨x0, x1, x2, y0, y1, y2, _⟩ => ?qay7) ?_
 case qay7 => go_simp; try rfl
 refine tH 8 ?qav8 hS (fun w1 ⟨x0, x1, x2, y0, y1, y2, _⟩ => ?qay8) ?_
 case qay8 => go_simp; try rfl
 refine tH 10 ?qav10 hS (fun w1 ⟨x0, x1, x2, y0, y1, y2, _⟩ => ?qay10) ?_
 case qay10 => go_simp; try rfl
 refine tH 11 ?qav11 hS (fun w1 ⟨x0, x1, x2, y0, y1, y2, _⟩ => ?qay11) ?_
 case qay11 => go_simp; try rfl
 refine tH 12 ?qav12 hS (fun w1 ⟨x0, x1, x2, y0, y1, y2, _⟩ => ?qay12) ?_
 case qay12 => go_simp; try rfl
 refine tH 13 ?qav13 hS (fun w1 ⟨x0, x1, x2, y0, y1, y2, _⟩ => ?qay13) ?_
 case qay13 => go_simp; try rfl
 simp only [Act.put, List.setIfInBounds_toArray, List.set_cons_succ, List.set_cons_zero]
 refine oneH 4 (by rfl) (by kernel_rfl) (fun K hK => ?_)
 gi_wp2_with (gi_at_call 83; refine (callsIn_wide.2 (HAL.out w' HB.out)).mono ?_; rintro e w2 ⟨rfl, b2⟩)
 have HB2 := Lib.hid (below5 HB.out b2)
 have HD2 := Lib.hid b2
 refine hK _ _ (fun _ => HCS.out w2 HD2.out) ?_
 clear hK K hS b2
 refine oneH 9 (by rfl) (by kernel_rfl) (fun K hK => ?_)
 gi_wp2_with (gi_at_call 84; refine (callsIn_wide.2 (cmpInt_any _ _ _)).mono ?_; rintro e w1 ⟨rfl, rfl⟩; rw [HZ2.out])
 refine hK _ _ (fun _ => HCS.out w2 HD2.out) ?_
 clear hK K
 refine oneH 14 (by rfl) (by kernel_rfl) (fun K hK => ?_)
 gi_wp2_with (gi_at_call 84; refine (callsIn_wide.2 (cmpInt_any _ _ _)).mono ?_; rintro e w1 ⟨rfl, rfl⟩; rw [HZ3.out])
 refine hK _ _ (fun _ => HCS.out w2 HD2.out) ?_
 clear hK K
 have hsl := Sl.built w2 ([z1, z2, z3].map fun n : Int => Value.int .i64 n) 3 (by simp; unfold maxLen; omega)
 have hb5 := HB2.out.alloc HB2.out.size (.cells ([z1, z2, z3].map fun n : Int => Value.int .i64 n).toArray 3)
 have hb6 : Below w2.heap.size w2 _ := (Below.refl w2.heap.size w2).alloc (Nat.le_refl _) (.cells ([z1, z2, z3].map fun n : Int => Value.int .i64 n).toArray 3)
 refine oneH 15 (by rfl) (by kernel_rfl) (fun K hK => ?_)
 gi_wp2_with fail
 refine hK _ _ (fun _ => HCS.out _ (below5 HD2.out hb6)) ?_
 clear hK K
 refine oneH 16 (by rfl) (by kernel_rfl) (fun K hK => ?_)
 gi_wp2_with (gi_at_call 82; refine (callsIn_wide.2 (cmpOr_any _ [z1, z2, z3] _ hsl (by simp))).mono ?_; rintro e w6 ⟨rfl, rfl⟩; rw [<- HR.out])
 refine hK _ _ (fun _ => HCS.out _ (below5 HD2.out hb6)) ?_
 clear hK K
 refine oneH 17 (by rfl) (by kernel_rfl) (fun K hK => ?_)
 gi_wp2_with fail
 refine hK _ _ (fun _ => HCS.out _ (below5 HD2.out hb6)) ?_
 clear hK K
 refine doneH (by kernel_rfl) ?_
 gi_wp2_with fail
 go_ret
 exact ⟨rfl, hb5⟩
theorem rApart_any (x y : Int) (w : World) : Calls Tryz.prog 160 #[.int .i64 x, .int .i64 y] w fun e w' => e = .returned (.int .i64 (Nm.sgn x y)) /\ w = w' := by
 rcases Int.lt_trichotomy x y with h | h | h
 ·have H := Lib.hid (show Nm.sgn x y = -1 by unfold Nm.sgn; rw [if_pos h])
  go_enter Tryz.func160, Tryz.ntmps160
  go_wp2
  go_ret
  exact ⟨by rw [H.out]; rfl, rfl⟩
 ·have H := Lib.hid (show Nm.sgn x y = 0 by unfold Nm.sgn; rw [if_neg (by omega), if_neg (by omega)])
  go_enter Tryz.func160, Tryz.ntmps160
  go_wp2
  go_ret
  exact ⟨by rw [H.out]; rfl, rfl⟩
 ·have H := Lib.hid (show Nm.sgn x y = 1 by unfold Nm.sgn; rw [if_neg (by omega), if_pos (by omega)])
  have h' : ¬ x < y := by omega
  go_enter Tryz.func160, Tryz.ntmps160
  go_wp2
  go_ret
  exact ⟨by rw [H.out]; rfl, rfl⟩
set_option maxHeartbeats 2000000 in
theorem refCompareFlaw_any (va vb : List Value) (a b : PFl) (w : World) (ha : FlRd va a w) (hb : FlRd vb b w) (na : NB a.owner) (nb : NB b.owner) :
  Calls Tryz.prog 135 #[.agg va.toArray, .agg vb.toArray] w (Gives (.int .i64 (Ck.cmp a b)) w) := by
 obtain ⟨ao, rfl, a0⟩ := ha
 obtain ⟨bo, rfl, b0⟩ := hb
 obtain ⟨oa, ca, rfl, _, _⟩ := a0.form
 obtain ⟨ob, cb, rfl, _, _⟩ := b0.form
 obtain ⟨z1, hz1⟩ : ∃ z, Nm.cmp a.owner b.owner = z := ⟨_, rfl⟩
 have hr : Ck.cmp a b = Rc.orI z1 (Rc.orI (Nm.sgn a.kind b.kind) (Nm.sgn a.type b.type)) := by unfold Ck.cmp; rw [hz1]
 have HR := Lib.hid hr
 have HAL : Hid (∀ W', Below w.heap.size w W' -> Calls Tryz.prog 142 #[.slice oa a.owner.length ca, .slice ob b.owner.length cb] W' (Gives (.int .i64 z1) W')) := fun W' hW => by
  have h := refCompareN_any _ _ a.owner b.owner W' (a0.below hW) (b0.below hW) na nb
  rw [hz1] at h; exact h
 obtain ⟨la, hla⟩ : ∃ la, a.owner.length = la := ⟨_, rfl⟩
 obtain ⟨lb, hlb⟩ : ∃ lb, b.owner.length = lb := ⟨_, rfl⟩
 rw [hla, hlb] at HAL
 rw [hla, hlb]
 obtain ⟨Wb, hWb⟩ : ∃ W, (w.alloc (.cells #[.int .i64 a.kind, .slice oa la ca, .int .i64 a.type] 160)).alloc (.cells #[.int .i64 b.kind, .slice ob lb cb, .int .i64 b.type] 160) = W := ⟨_, rfl⟩
 have HB : Hid (Below w.heap.size w Wb) := by show Below _ _ _; rw [<- hWb]; exact ((Below.refl _ _).alloc (Nat.le_refl _) _).alloc (by simp) _
 have HA0 : Hid (Blk w.heap.size #[.int .i64 a.kind, .slice oa la ca, .int .i64 a.type] 160 Wb) := by show Blk _ _ _ _; rw [<- hWb]; exact (Blk.new w _ _).alloc _
 have HB0 : Hid (Blk (w.heap.size + 1) #[.int .i64 b.kind, .slice ob lb cb, .int .i64 b.type] 160 Wb) := by
  show Blk _ _ _ _
  have := Blk.new (w.alloc (.cells #[.int .i64 a.kind, .slice oa la ca, .int .i64 a.type] 160)) #[.int .i64 b.kind, .slice ob lb cb, .int .i64 b.type] 160
  rw [World.size_alloc] at this
  rw [<- hWb]; exact this
 have a1 : Wb.cell? ⟨w.heap.size, 1, none⟩ = some (.slice oa la ca) := HA0.out.cell 1
 have b1 : Wb.cell? ⟨w.heap.size + 1, 1, none⟩ = some (.slice ob lb cb) := HB0.out.cell 1
 clear a0 b0 na nb hr hz1 hla hlb
 refine (callsIn_wide (n := 0)).1 ?_
 refine callsIn_of_wp Tryz.func135 rfl trivial ?_ rfl
 simp only [Tryz.ntmps135, List.size_toArray, List.length_cons, List.length_nil, Nat.reduceAdd, Nat.reduceSub, Array.replicate_succ, Array.replicate_zero, List.push_toArray, List.append_toArray, List.nil_append, List.cons_append]
 gi_wp2_with fail
 refine (callsIn_wide.2 (HAL.out Wb HB.out)).mono ?_
 rintro e w2 ⟨rfl, b2⟩
 have HB2 := Lib.hid (below5 HB.out b2)
 have HA2 := Lib.hid (HA0.out.below b2)
 have HD2 := Lib.hid (HB0.out.below b2)
 clear a1 b1 b2
 by_cases hz : z1 = 0
 ·subst hz
  have a0 : w2.cell? ⟨w.heap.size, 0, none⟩ = some (.int .i64 a.kind) := HA2.out.cell 0
  have a2 : w2.cell? ⟨w.heap.size, 2, none⟩ = some (.int .i64 a.type) := HA2.out.cell 2
  have b0 : w2.cell? ⟨w.heap.size + 1, 0, none⟩ = some (.int .i64 b.kind) := HD2.out.cell 0
  have b2 : w2.cell? ⟨w.heap.size + 1, 2, none⟩ = some (.int .i64 b.type) := HD2.out.cell 2
  have hr0 : Ck.cmp a b = if Nm.sgn a.kind b.kind ≠ 0 then Nm.sgn a.kind b.kind else Nm.sgn a.type b.type := by rw [HR.out]; unfold Rc.orI; rw [if_neg (by simp)]
  by_cases hk : a.kind = b.kind
  ·have hr1 : Ck.cmp a b = Nm.sgn a.type b.type := by rw [hr0, hk, if_neg (by unfold Nm.sgn; simp)]
   have HR1 := Lib.hid hr1
   clear hr1 hr0 HR
   gi_wp2_with (gi_at_call 160; refine (callsIn_wide.2 (rApart_any _ _ _)).mono ?_; rintro e9 w9 ⟨rfl, rfl⟩)
   go_ret
   exact ⟨by rw [HR1.out]; rfl, HB2.out⟩
  ·have hs : Nm.sgn a.kind b.kind ≠ 0 := fun h => hk (Rc.sgn_zero h)
   have hr1 : Ck.cmp a b = Nm.sgn a.kind b.kind := by rw [hr0, if_pos hs]
   have HR1 := Lib.hid hr1
   clear hr1 hr0 HR hs
   gi_wp2_with (gi_at_call 160; refine (callsIn_wide.2 (rApart_any _ _ _)).mono ?_; rintro e9 w9 ⟨rfl, rfl⟩)
   go_ret
   exact ⟨by rw [HR1.out]; rfl, HB2.out⟩
 ·have hr0 : Ck.cmp a b = z1 := by rw [HR.out]; unfold Rc.orI; rw [if_pos hz]
  have HR1 := Lib.hid hr0
  clear hr0 HR
  gi_wp2_with fail
  go_ret
  exact ⟨by rw [HR1.out]; rfl, HB2.out⟩
end Go.Proofs.YtneghhbclefmoaaGreat
end
section
namespace Go.Proofs.YtneghhbclefmoaaGreat
namespace Fl
open Go.RowKit Go.Shelf Go.Sort
set_option maxRecDepth 100000
section
variable {α : Type} [Inhabited α] {enc : α -> List Value} {k : Nat} {w0 : World} {blk off : Nat}
set_option maxHeartbeats 4000000 in
theorem swapRange_any {n : Nat} (g : SG enc k w0 blk off n) (aE : ∀ w, (isAgg 94).run Tryz.prog w = .ok true w) (zE : ∀ w, (Go.sizeOf 94).run Tryz.prog w = .ok k w) (hn : n <= 1000000) (cap : Nat) (vf : Value)
  (P X M Y Q : List α) (a b c : Nat) (hl : (P ++ (X ++ (M ++ (Y ++ Q)))).length = n) (hxy : X.length = Y.length) (ha : P.length = a) (hb : P.length + X.length + M.length = b) (hc : X.length = c)
  (W : World) (hs : SL enc k w0 blk off (P ++ (X ++ (M ++ (Y ++ Q)))) W) :
  Calls Tryz.prog 216 #[.slice (some ⟨blk, off, none⟩) n cap, .int .i64 a, .int .i64 b, .int .i64 c, vf] W fun e w' => e = .returned (.tuple #[]) /\ SL enc k w0 blk off (P ++ (Y ++ (M ++ (X ++ Q)))) w' := by
 have mixed : Tryz.prog.follows .mixedOrders = true := by kernel_rfl
 have AA := Lib.hid (And.intro ha (And.intro hb hc))
 have HL := Lib.hid hl
 have HXY := Lib.hid hxy
 have HG := Lib.hid g
 have han : (a : Int) + c <= n := by simp only [List.length_append] at hl; omega
 have hbn : (b : Int) + c <= n := by simp only [List.length_append] at hl; omega
 have hnn : (n : Int) <= 1000000 := by omega
 clear ha hb hc hl hxy hn g
 go_enter Tryz.func216, Tryz.ntmps216
 go_wp2
 go_loopw [10] (fun i wr => ∃ (X1 X2 Y1 Y2 : List α), Hid (X = X1 ++ X2 /\ Y = Y1 ++ Y2 /\ X1.length = Y1.length) /\ i = .int .i64 (X1.length : Nat) /\ SL enc k w0 blk off (P ++ ((Y1 ++ X2) ++ (M ++ ((X1 ++ Y2) ++ Q)))) wr) (fun i _ => c - (intOf i).toNat)
 case atStart => exact ⟨[], X, [], Y, Lib.hid ⟨rfl, rfl, rfl⟩, rfl, hs⟩
 case round =>
  obtain ⟨X1, X2, Y1, Y2, HH, rfl, hs1⟩ := hrel
  rcases X2 with _ | ⟨x, X2⟩
  ·have hlt : ¬ ((X1.length : Int) < (c : Int)) := by
    have h1 := HH.out.1
    have h2 := AA.out.2.2
    rw [<- h2, h1, List.append_nil]; omega
   have HR : Hid (SL enc k w0 blk off (P ++ (Y ++ (M ++ (X ++ Q)))) wr) := by
    obtain ⟨h1, h2, h3⟩ := HH.out
    have h4 := HXY.out
    have hY2 : Y2 = [] := by
     apply List.length_eq_zero_iff.1
     have := congrArg List.length h1
     have := congrArg List.length h2
     simp only [List.length_append, List.length_nil] at *
     omega
    show SL _ _ _ _ _ _ _
    rw [h1, h2, hY2]; rw [hY2] at hs1; simpa using hs1
   clear hs1
   go_wp2
   go_end0
   exact ⟨rfl, HR.out⟩
  ·rcases Y2 with _ | ⟨y, Y2⟩
   ·exfalso
    obtain ⟨h1, h2, h3⟩ := HH.out
    have h4 := HXY.out
    have := congrArg List.length h1
    have := congrArg List.length h2
    simp only [List.length_append, List.length_cons, List.length_nil] at *
    omega
   ·obtain ⟨i, hi⟩ : ∃ i, X1.length = i := ⟨_, rfl⟩
    rw [hi]
    have hs2 : SL enc k w0 blk off ((P ++ Y1) ++ x :: ((X2 ++ (M ++ X1)) ++ y :: (Y2 ++ Q))) wr := by simpa using hs1
    obtain ⟨u, hu⟩ : ∃ u, u = (P ++ Y1).length := ⟨_, rfl⟩
    obtain ⟨v, hv⟩ : ∃ v, v = (P ++ Y1).length + 1 + (X2 ++ (M ++ X1)).length := ⟨_, rfl⟩
    have nums : u = a + i /\ v = b + i /\ i < c /\ ((P ++ Y1) ++ x :: ((X2 ++ (M ++ X1)) ++ y :: (Y2 ++ Q))).length = n := by
     obtain ⟨h1, h2, h3⟩ := HH.out
     obtain ⟨a1, a2, a3⟩ := AA.out
     have h5 := congrArg List.length h1
     have h6 := congrArg List.length h2
     have h7 := HL.out
     simp only [List.length_append, List.length_cons] at *
     omega
    obtain ⟨nu, nv, ni, nl⟩ := nums
    have w1 : IntKind.i64.wrap ((a : Int) + i) = (u : Int) := by rw [IntWalk.i64_in _ (by omega)]; omega
    have w2 : IntKind.i64.wrap ((b : Int) + i) = (v : Int) := by rw [IntWalk.i64_in _ (by omega)]; omega
    have w3 : IntKind.i64.wrap ((i : Int) + 1) = ((i + 1 : Nat) : Int) := by rw [IntWalk.i64_in _ (by omega)]; omega
    have hiz : (i : Int) < (c : Int) := by omega
    have bu : (u : Int) < n := by omega
    have bv : (v : Int) < n := by omega
    have e1 : ((P ++ Y1) ++ x :: ((X2 ++ (M ++ X1)) ++ y :: (Y2 ++ Q)))[u]'(by omega) = x := by simp [hu]
    have e2 : ((P ++ Y1) ++ x :: ((X2 ++ (M ++ X1)) ++ y :: (Y2 ++ Q)))[v]'(by omega) = y := by
     have h0 : (P ++ Y1) ++ x :: ((X2 ++ (M ++ X1)) ++ y :: (Y2 ++ Q)) = ((P ++ Y1) ++ x :: (X2 ++ (M ++ X1))) ++ y :: (Y2 ++ Q) := by simp
     have h1 : v = ((P ++ Y1) ++ x :: (X2 ++ (M ++ X1))).length := by rw [hv]; simp only [List.length_append, List.length_cons]; omega
     simp only [h0, h1]; simp
    have l1 := hs2.drew.load HG.out nl Tryz.prog u (by omega)
    have l2 := hs2.drew.load HG.out nl Tryz.prog v (by omega)
    have s1 := hs2.st1 HG.out nl Tryz.prog u (by omega) y
    have s2 := hs2.st2 HG.out nl Tryz.prog u v (by omega) (by omega) y x
    rw [e1] at l1
    rw [e2] at l2
    have HS : Hid (SL enc k w0 blk off (P ++ ((Y1 ++ [y]) ++ (X2 ++ (M ++ ((X1 ++ [x]) ++ (Y2 ++ Q)))))) ((wr.drew.setCells blk (off + u * k) (enc y)).setCells blk (off + v * k) (enc x))) := by
     have := hs2.swapped HG.out
     rw [<- hv, <- hu] at this
     show SL _ _ _ _ _ _ _
     have e : (P ++ Y1) ++ y :: ((X2 ++ (M ++ X1)) ++ x :: (Y2 ++ Q)) = P ++ ((Y1 ++ [y]) ++ (X2 ++ (M ++ ((X1 ++ [x]) ++ (Y2 ++ Q))))) := by simp
     rwa [<- e]
    have HN := Lib.hid (And.intro nu (And.intro nv (And.intro ni hi)))
    have kx : (enc x).length = k := HG.out.hk x
    have ky : (enc y).length = k := HG.out.hk y
    clear hs1 hs2 nu nv ni nl hu hv e1 e2 hi
    obtain ⟨cx, hcx⟩ : ∃ cx, cx = enc x := ⟨_, rfl⟩
    obtain ⟨cy, hcy⟩ : ∃ cy, cy = enc y := ⟨_, rfl⟩
    rw [<- hcx] at l1 s2 kx
    rw [<- hcy] at l2 s1 s2 ky
    rw [<- hcx, <- hcy] at HS
    clear hcx hcy
    go_wp2_with fail
    go_big_region_o
    all_goals go_wp2
    refine ⟨⟨X1 ++ [x], X2, Y1 ++ [y], Y2, ?_, ?_, ?_⟩, ?_⟩
    ·obtain ⟨h1, h2, h3⟩ := HH.out
     exact ⟨by rw [h1]; simp, by rw [h2]; simp, by simp [h3]⟩
    ·have := HN.out.2.2.2
     rw [List.length_append, this]; rfl
    ·simpa using HS.out
    ·have := HN.out.2.2.1
     simp [intOf]; omega
end
end Fl
end Go.Proofs.YtneghhbclefmoaaGreat
end
section
namespace Go.Proofs.YtneghhbclefmoaaGreat
namespace Fl
open Go.RowKit Go.Shelf Go.Sort
set_option maxRecDepth 100000
section
variable {α : Type} [Inhabited α] {enc : α -> List Value} {k : Nat} {w0 : World} {blk off : Nat}
set_option maxHeartbeats 4000000 in
theorem rotate_any {n : Nat} (g : SG enc k w0 blk off n) (aE : ∀ w, (isAgg 94).run Tryz.prog w = .ok true w) (zE : ∀ w, (Go.sizeOf 94).run Tryz.prog w = .ok k w) (hn : n <= 1000000) (cap : Nat) (vf : Value)
  (P X Y Q : List α) (a m b : Nat) (hl : (P ++ (X ++ (Y ++ Q))).length = n) (ha : P.length = a) (hm : P.length + X.length = m) (hb : m + Y.length = b) (hX : 0 < X.length) (hY : 0 < Y.length)
  (W : World) (hs : SL enc k w0 blk off (P ++ (X ++ (Y ++ Q))) W) :
  Calls Tryz.prog 212 #[.slice (some ⟨blk, off, none⟩) n cap, .int .i64 a, .int .i64 m, .int .i64 b, vf] W fun e w' => e = .returned (.tuple #[]) /\ SL enc k w0 blk off (P ++ (Y ++ (X ++ Q))) w' := by
 obtain ⟨T, hT⟩ : ∃ T, P ++ (Y ++ (X ++ Q)) = T := ⟨_, rfl⟩
 have HT := Lib.hid hT
 have HG := Lib.hid g
 have AE := Lib.hid aE
 have ZE := Lib.hid zE
 have HNN := Lib.hid hn
 have nums : X.length = m - a /\ Y.length = b - m /\ b <= n /\ a < m /\ m < b := by simp only [List.length_append] at hl; omega
 obtain ⟨n1, n2, n3, n4, n5⟩ := nums
 obtain ⟨i0, hi0⟩ : ∃ i0, i0 = m - a := ⟨_, rfl⟩
 obtain ⟨j0, hj0⟩ : ∃ j0, j0 = b - m := ⟨_, rfl⟩
 have w1 : IntKind.i64.wrap ((m : Int) - a) = (i0 : Int) := by rw [IntWalk.i64_in _ (by omega)]; omega
 have w2 : IntKind.i64.wrap ((b : Int) - m) = (j0 : Int) := by rw [IntWalk.i64_in _ (by omega)]; omega
 have N0 : Hid (X.length = i0 /\ Y.length = j0 /\ P.length + i0 = m /\ 0 < i0 /\ 0 < j0 /\ m + j0 <= n /\ (P ++ (X ++ (Y ++ Q))).length = n) := by
  show _ /\ _
  refine ⟨by omega, by omega, by omega, by omega, by omega, by omega, hl⟩
 rw [hT]
 clear n1 n2 n3 n4 n5 hi0 hj0 hl ha hm hb hX hY hn g aE zE hT
 go_enter Tryz.func212, Tryz.ntmps212
 go_wp2
 go_loopw [10, 11] (fun vi vj wr => ∃ (i j : Nat) (P X Y Q : List α), vi = .int .i64 i /\ vj = .int .i64 j /\ Hid (X.length = i /\ Y.length = j /\ P.length + i = m /\ 0 < i /\ 0 < j /\ m + j <= n /\ (P ++ (X ++ (Y ++ Q))).length = n) /\ Hid (P ++ (Y ++ (X ++ Q)) = T) /\ SL enc k w0 blk off (P ++ (X ++ (Y ++ Q))) wr) (fun vi vj _ => (intOf vi).toNat + (intOf vj).toNat)
 case atStart => exact ⟨i0, j0, P, X, Y, Q, rfl, rfl, N0, HT, hs⟩
 case round =>
  obtain ⟨i, j, P, X, Y, Q, rfl, rfl, HN, HT, hs⟩ := hrel
  obtain ⟨p, hp⟩ : ∃ p, p = P.length := ⟨_, rfl⟩
  have w3 : IntKind.i64.wrap ((m : Int) - i) = (p : Int) := by have := HN.out; have := HNN.out; rw [IntWalk.i64_in _ (by omega)]; omega
  rcases Nat.lt_trichotomy i j with h | h | h
  ·have hne : ((i : Int) != j) = true := by simp; omega
   have hgt : ¬ ((j : Int) < i) := by omega
   obtain ⟨q, hq⟩ : ∃ q, q = m + j := ⟨_, rfl⟩
   obtain ⟨r, hr⟩ : ∃ r, r = m + j - i := ⟨_, rfl⟩
   obtain ⟨d, hd⟩ : ∃ d, d = j - i := ⟨_, rfl⟩
   have w4 : IntKind.i64.wrap ((m : Int) + j) = (q : Int) := by have := HN.out; have := HNN.out; rw [IntWalk.i64_in _ (by omega)]; omega
   have w5 : IntKind.i64.wrap ((q : Int) - i) = (r : Int) := by have := HN.out; have := HNN.out; rw [IntWalk.i64_in _ (by omega)]; omega
   have w6 : IntKind.i64.wrap ((j : Int) - i) = (d : Int) := by have := HN.out; have := HNN.out; rw [IntWalk.i64_in _ (by omega)]; omega
   have e0 : Y = Y.take d ++ Y.drop d := (List.take_append_drop _ _).symm
   have l1 : (Y.take d).length = d := by have := HN.out; rw [List.length_take]; omega
   have l2 : (Y.drop d).length = i := by have := HN.out; rw [List.length_drop]; omega
   generalize Y.take d = Y1 at *
   generalize Y.drop d = Y2 at *
   have hl := HN.out.2.2.2.2.2.2
   rw [e0, List.append_assoc] at hs hl
   have HE := Lib.hid e0
   have HQ := Lib.hid (And.intro h (And.intro hq (And.intro hr (And.intro hd (And.intro l1 (And.intro l2 hp))))))
   have HC := Lib.hid (swapRange_any HG.out AE.out ZE.out HNN.out cap vf P X Y1 Y2 Q p r i hl (by have := HN.out; omega) hp.symm (by have := HN.out; omega) (by have := HN.out; omega))
   clear w1 w2 h hq hr hd l1 l2 hp e0 hl
   go_wp2_with fail
   refine (HC.out _ hs).mono ?_
   rintro e wq ⟨rfl, hs'⟩
   go_wp2_with fail
   refine ⟨⟨i, d, P, Y2, Y1, X ++ Q, rfl, rfl, ?_, ?_, by simpa using hs'⟩, ?_⟩
   ·obtain ⟨h, hq, hr, hd, l1, l2, hp⟩ := HQ.out
    obtain ⟨a1, a2, a3, a4, a5, a6, a7⟩ := HN.out
    have := HE.out
    show _ /\ _
    refine ⟨l2, l1, a3, a4, by omega, by omega, ?_⟩
    rw [this] at a7
    simp only [List.length_append] at a7 ⊢; omega
   ·have := HE.out
    have h2 := HT.out
    show _ = _
    rw [this] at h2
    rw [<- h2]; simp
   ·have := HQ.out; have := HN.out
    simp only [intOf, Int.toNat_natCast]; omega
  ·have hne : ((i : Int) != j) = false := by simp; omega
   subst h
   have HC := Lib.hid (swapRange_any HG.out AE.out ZE.out HNN.out cap vf P X [] Y Q p m i (by have := HN.out; simpa using this.2.2.2.2.2.2) (by have := HN.out; omega) hp.symm (by have := HN.out; simp; omega) (by have := HN.out; omega))
   clear w1 w2 hp
   go_wp2_with fail
   refine (HC.out _ (by simpa using hs)).mono ?_
   rintro e wq ⟨rfl, hs'⟩
   have HS := Lib.hid hs'
   clear hs'
   go_wp2_with fail
   go_end0
   refine ⟨rfl, ?_⟩
   rw [<- HT.out]
   simpa using HS.out
  ·have hne : ((i : Int) != j) = true := by simp; omega
   have hgt : (j : Int) < i := by omega
   obtain ⟨d, hd⟩ : ∃ d, d = i - j := ⟨_, rfl⟩
   have w6 : IntKind.i64.wrap ((i : Int) - j) = (d : Int) := by have := HN.out; have := HNN.out; rw [IntWalk.i64_in _ (by omega)]; omega
   have e0 : X = X.take j ++ X.drop j := (List.take_append_drop _ _).symm
   have l1 : (X.take j).length = j := by have := HN.out; rw [List.length_take]; omega
   have l2 : (X.drop j).length = d := by have := HN.out; rw [List.length_drop]; omega
   generalize X.take j = X1 at *
   generalize X.drop j = X2 at *
   have hl := HN.out.2.2.2.2.2.2
   rw [e0, List.append_assoc] at hs hl
   have HE := Lib.hid e0
   have HQ := Lib.hid (And.intro h (And.intro hd (And.intro l1 (And.intro l2 hp))))
   have HC := Lib.hid (swapRange_any HG.out AE.out ZE.out HNN.out cap vf P X1 X2 Y Q p m j hl (by have := HN.out; omega) hp.symm (by have := HN.out; omega) (by have := HN.out; omega))
   clear w1 w2 h hd l1 l2 hp e0 hl
   go_wp2_with fail
   refine (HC.out _ hs).mono ?_
   rintro e wq ⟨rfl, hs'⟩
   go_wp2_with fail
   refine ⟨⟨d, j, P ++ Y, X2, X1, Q, rfl, rfl, ?_, ?_, by simpa using hs'⟩, ?_⟩
   ·obtain ⟨h, hd, l1, l2, hp⟩ := HQ.out
    obtain ⟨a1, a2, a3, a4, a5, a6, a7⟩ := HN.out
    have := HE.out
    show _ /\ _
    refine ⟨l2, l1, by rw [List.length_append]; omega, by omega, by omega, by omega, ?_⟩
    rw [this] at a7
    simp only [List.length_append] at a7 ⊢; omega
   ·have := HE.out
    have h2 := HT.out
    show _ = _
    rw [this] at h2
    rw [<- h2]; simp
   ·have := HQ.out; have := HN.out
    simp only [intOf, Int.toNat_natCast]; omega
end
end Fl
end Go.Proofs.YtneghhbclefmoaaGreat
end
section
namespace Go.Proofs.YtneghhbclefmoaaGreat
namespace Fl
open Go.RowKit Go.Shelf Go.Sort
set_option maxRecDepth 100000
section
variable {α : Type} [Inhabited α] {enc : α -> List Value} {k : Nat} {w0 : World} {blk off : Nat}
def ltC (cf : α -> α -> Int) (x y : α) : Bool := decide (cf x y < 0)
def CmpOk (gf : Nat) (enc : α -> List Value) (k : Nat) (cf : α -> α -> Int) (w0 : World) (blk off n : Nat) : Prop :=
 ∀ (W : World) (l : List α), SL enc k w0 blk off l W -> l.length = n -> ∀ x y : α, Calls Tryz.prog gf #[.agg (enc x).toArray, .agg (enc y).toArray] W fun e w' => e = .returned (.int .i64 (cf x y)) /\ Below W.heap.size W w'
structure InSL (enc : α -> List Value) (k : Nat) (w0 : World) (blk off : Nat) (l : List α) where
 W : World
 h : SL enc k w0 blk off l W
theorem wp_region_sl {P : Program} {id : Nat} {Q : Exit -> Act -> World -> Prop} {a : Act} {w : World} {ops : List Oper} {l : List α} (hm : P.follows .mixedOrders = true) (hB : Region.lexB .any ops.toArray = true) (hs : SL enc k w0 blk off l w)
  (h : wpQuiet P ops.toArray (fun w' => ∃ p : InSL enc k w0 blk off l, w' = p.W) (fun a' => ∀ w', (∃ p : InSL enc k w0 blk off l, w' = p.W) -> Q .normal a' w') ops a) : (Code.region id ops.toArray true).wp P Q a w :=
 wp_region_quiet (C := fun w' => ∃ p : InSL enc k w0 blk off l, w' = p.W) hm hB ⟨⟨w.drew, hs.drew⟩, rfl⟩ (by simpa using h)
theorem CmpOk.quiet {gf : Nat} {cf : α -> α -> Int} {n : Nat} (h : CmpOk gf enc k cf w0 blk off n) {l : List α} (hl : l.length = n) (x y : α) (p : InSL enc k w0 blk off l) :
  Calls Tryz.prog gf #[.agg (enc x).toArray, .agg (enc y).toArray] p.W fun e w' => e = .returned (.int .i64 (cf x y)) /\ ∃ p' : InSL enc k w0 blk off l, w' = p'.W :=
 (h p.W l p.h hl x y).mono fun _ w' ⟨he, hb⟩ => ⟨he, ⟨w', p.h.below hb⟩, rfl⟩
set_option maxHeartbeats 400000 in
theorem insertion_any {n : Nat} (g : SG enc k w0 blk off n) (aE : ∀ w, (isAgg 94).run Tryz.prog w = .ok true w) (zE : ∀ w, (Go.sizeOf 94).run Tryz.prog w = .ok k w) (hn : n <= 1000000) (cap : Nat)
  (gf : Nat) (eg : ∀ args w, (callFunc gf args).run Tryz.prog w = .ok (.enter gf args) w) (cf : α -> α -> Int) (hC : CmpOk gf enc k cf w0 blk off n) (ho : Srt.Ord (ltC cf))
  (P X Q : List α) (a b : Nat) (hl : (P ++ (X ++ Q)).length = n) (ha : P.length = a) (hb : P.length + X.length = b)
  (W : World) (hs : SL enc k w0 blk off (P ++ (X ++ Q)) W) :
  Calls Tryz.prog 203 #[.slice (some ⟨blk, off, none⟩) n cap, .int .i64 a, .int .i64 b, .func (.func gf) #[] #[]] W fun e w' => e = .returned (.tuple #[]) /\ SL enc k w0 blk off (P ++ (Srt.srt (ltC cf) X ++ Q)) w' := by
 have mixed : Tryz.prog.follows .mixedOrders = true := by kernel_rfl
 have HG := Lib.hid g
 have HO := Lib.hid ho
 have HCC := Lib.hid hC
 have HA := Lib.hid (And.intro ha hb)
 have HL := Lib.hid hl
 have hbn : (b : Int) <= n := by simp only [List.length_append] at hl; omega
 have hab : (a : Int) <= b := by omega
 have hnn : (n : Int) <= 1000000 := by omega
 have w1 : IntKind.i64.wrap ((a : Int) + 1) = ((a + 1 : Nat) : Int) := by rw [IntWalk.i64_in _ (by omega)]; omega
 clear g ho hC ha hb hl hn
 go_enter Tryz.func203, Tryz.ntmps203
 go_wp2
 go_loopw [8] (fun vi wr => ∃ (i : Nat) (X1 X2 : List α), vi = .int .i64 i /\ Hid (X = X1 ++ X2 /\ (i = a + X1.length \/ X = [] /\ i = a + 1)) /\ SL enc k w0 blk off (P ++ (Srt.srt (ltC cf) X1 ++ (X2 ++ Q))) wr) (fun vi _ => b + 1 - (intOf vi).toNat)
 case atStart =>
  rcases X with _ | ⟨x, X⟩
  ·exact ⟨a + 1, [], [], by go_num, Lib.hid ⟨rfl, .inr ⟨rfl, rfl⟩⟩, hs⟩
  ·exact ⟨a + 1, [x], X, by go_num, Lib.hid ⟨rfl, .inl rfl⟩, hs⟩
 case round =>
  obtain ⟨i, X1, X2, rfl, HX, hs1⟩ := hrel
  by_cases hlt : i < b
  ·have hltz : (i : Int) < (b : Int) := by omega
   obtain ⟨x, X2', h2⟩ : ∃ x X2', X2 = x :: X2' := by
    rcases X2 with _ | ⟨x, X2⟩
    ·exfalso
     have h1 := HA.out; have h3 := HX.out
     rcases h3 with ⟨h3, h4 | ⟨h4, h5⟩⟩
     ·have := congrArg List.length h3; simp only [List.length_append, List.length_nil] at this; omega
     ·rw [h4] at h1; simp only [List.length_nil] at h1; omega
    ·exact ⟨x, X2, rfl⟩
   subst h2
   have HI : Hid (i = a + X1.length /\ X = X1 ++ x :: X2') := by
    have h1 := HA.out; have h3 := HX.out
    rcases h3 with ⟨h3, h4 | ⟨h4, h5⟩⟩
    ·exact ⟨h4, h3⟩
    ·rw [h4] at h1; simp only [List.length_nil] at h1; omega
   have w2 : IntKind.i64.wrap ((i : Int) + 1) = ((i + 1 : Nat) : Int) := by rw [IntWalk.i64_in _ (by omega)]; omega
   have hil : (i : Int) + 1 <= n := by omega
   clear hlt HX
   go_wp2
   go_loopw [9] (fun vj wr2 => ∃ (j : Nat) (A B : List α), vj = .int .i64 j /\ Hid (Srt.srt (ltC cf) X1 = A ++ B /\ (∀ y ∈ B, ltC cf x y = true) /\ j = a + A.length) /\ SL enc k w0 blk off (P ++ (A ++ x :: (B ++ (X2' ++ Q)))) wr2) (fun vj _ => (intOf vj).toNat)
   case atStart => exact ⟨i, Srt.srt (ltC cf) X1, [], rfl, Lib.hid ⟨by simp, by simp, by rw [Srt.srt_len]; exact HI.out.1⟩, by simpa using hs1⟩
   case round =>
    obtain ⟨j, A, B, rfl, HB, hs2⟩ := hrel
    rcases List.eq_nil_or_concat A with rfl | ⟨A, y, rfl⟩
    ·have hja : ¬ ((a : Int) < (j : Int)) := by have := HB.out.2.2; simp at this; omega
     have HR : Hid (Srt.srt (ltC cf) (X1 ++ [x]) = x :: B) := by
      have := HB.out
      show _ = _
      rw [Srt.srt_snoc, this.1, List.nil_append, Srt.ins_all this.2.1]
     obtain ⟨L, hL⟩ : ∃ L, P ++ ([] ++ x :: (B ++ (X2' ++ Q))) = L := ⟨_, rfl⟩
     rw [hL] at hs2
     have HL' := Lib.hid hL
     clear hs1 hL
     haveI : Nonempty (InSL enc k w0 blk off L) := ⟨⟨_, hs2⟩⟩
     go_wp2_with fail
     have hjn : decide (a < j) = false := decide_eq_false (by have := HB.out.2.2; simp at this; omega)
     go_big_region_o
     all_goals go_wp2
     have hs3 := hs2.drew
     refine ⟨⟨i + 1, X1 ++ [x], X2', by go_num, ?_, ?_⟩, ?_⟩
     ·have := HI.out
      exact ⟨by rw [this.2]; simp, .inl (by rw [this.1]; simp; omega)⟩
     ·rw [HR.out]; have := hs3; rw [<- HL'.out] at this; simpa using this
     ·simp only [intOf]; omega
    ·rw [List.concat_eq_append] at HB hs2
     obtain ⟨jp, hjp⟩ : ∃ jp, jp = (P ++ A).length := ⟨_, rfl⟩
     have hj : j = jp + 1 := by
      have h1 := HB.out.2.2; have h2 := HA.out.1
      simp only [List.length_append, List.length_cons, List.length_nil] at h1 hjp; omega
     obtain ⟨L, hL⟩ : ∃ L, (P ++ A) ++ y :: ([] ++ x :: (B ++ (X2' ++ Q))) = L := ⟨_, rfl⟩
     have hs3 : SL enc k w0 blk off L wr := by rw [<- hL]; simpa using hs2
     have hLl : L.length = n := by
      rw [<- hL, <- HL.out]
      have h1 := congrArg List.length HB.out.1
      rw [Srt.srt_len] at h1
      rw [HI.out.2]
      simp only [List.length_append, List.length_cons, List.length_nil] at h1 ⊢; omega
     have hjl : jp + 1 < L.length := by
      rw [<- hL, hjp]; simp only [List.length_append, List.length_cons, List.length_nil]; omega
     have ex : L[jp + 1]'hjl = x := by
      have h0 : L = ((P ++ A) ++ [y]) ++ x :: (B ++ (X2' ++ Q)) := by rw [<- hL]; simp
      have h1 : jp + 1 = ((P ++ A) ++ [y]).length := by rw [hjp]; simp only [List.length_append, List.length_cons, List.length_nil]
      simp only [h0, h1]; simp
     have ey : L[jp]'(by omega) = y := by
      simp only [<- hL, hjp]; simp
     have hjn : decide (a < j) = true := decide_eq_true (by have h1 := HB.out.2.2; simp only [List.length_append, List.length_cons, List.length_nil] at h1; omega)
     have hjn' : decide ((a : Int) < (j : Int)) = true := decide_eq_true (by have := of_decide_eq_true hjn; omega)
     have w3 : IntKind.i64.wrap ((j : Int) - 1) = (jp : Int) := by rw [IntWalk.i64_in _ (by omega)]; omega
     have jz : (j : Int) < n := by omega
     have jz1 : (jp : Int) < n := by omega
     have lx : ∀ p : InSL enc k w0 blk off L, Sem.run Tryz.prog (loadCellsFrom ⟨blk, off + j * k, none⟩ 0 k #[]) p.W = .ok (enc x).toArray p.W := fun p => by
      have := p.h.load HG.out hLl Tryz.prog (jp + 1) hjl
      rw [ex, <- hj] at this; exact this
     have ly : ∀ p : InSL enc k w0 blk off L, Sem.run Tryz.prog (loadCellsFrom ⟨blk, off + jp * k, none⟩ 0 k #[]) p.W = .ok (enc y).toArray p.W := fun p => by
      have := p.h.load HG.out hLl Tryz.prog jp (by omega)
      rw [ey] at this; exact this
     have HCQ := Lib.hid (fun p => HCC.out.quiet hLl x y p)
     haveI : Nonempty (InSL enc k w0 blk off L) := ⟨⟨_, hs3⟩⟩
     have HJ := Lib.hid (And.intro hj (And.intro hjl hjp))
     have HL2 := Lib.hid hL
     have HLN := Lib.hid hLl
     clear hs1 hs2 hj ex ey hjl hjp hL hLl
     by_cases hlv : cf x y < 0
     ·go_wp2_with fail
      refine wp_region_sl mixed (by kernel_rfl) hs3 ?_
      repeat (quiet_step (first | (go_at_fn gf; exact HCQ.out _)))
      refine wpQuiet_nil ?_
      rintro wq ⟨p, rfl⟩
      go_wp2_with fail
      obtain ⟨wq, hq⟩ := p
      show Code.wp _ _ _ _ wq
      have lx1 : Sem.run Tryz.prog (loadCellsFrom ⟨blk, off + j * k, none⟩ 0 k #[]) wq.drew = .ok (enc x).toArray wq.drew := lx ⟨wq.drew, hq.drew⟩
      have ly1 : Sem.run Tryz.prog (loadCellsFrom ⟨blk, off + jp * k, none⟩ 0 k #[]) wq.drew = .ok (enc y).toArray wq.drew := ly ⟨wq.drew, hq.drew⟩
      have s1 := hq.st1 HG.out HLN.out Tryz.prog j (by have := HJ.out; omega) y
      have s2 := hq.st2 HG.out HLN.out Tryz.prog j jp (by have := HJ.out; omega) (by have := HJ.out; omega) y x
      have HS : Hid (SL enc k w0 blk off (P ++ (A ++ x :: ((y :: B) ++ (X2' ++ Q)))) ((wq.drew.setCells blk (off + j * k) (enc y)).setCells blk (off + jp * k) (enc x))) := by
       have h1 := HJ.out
       rw [<- HL2.out] at hq
       have := hq.swapped' HG.out
       rw [show (P ++ A).length + 1 + ([] : List α).length = j by simp only [List.length_nil]; omega, <- h1.2.2] at this
       show SL _ _ _ _ _ _ _
       have e : (P ++ A) ++ x :: ([] ++ y :: (B ++ (X2' ++ Q))) = P ++ (A ++ x :: ((y :: B) ++ (X2' ++ Q))) := by simp
       rwa [<- e]
      have kx : (enc x).length = k := HG.out.hk x
      have ky : (enc y).length = k := HG.out.hk y
      clear lx ly hs3 hq
      obtain ⟨cx, hcx⟩ : ∃ cx, cx = enc x := ⟨_, rfl⟩
      obtain ⟨cy, hcy⟩ : ∃ cy, cy = enc y := ⟨_, rfl⟩
      rw [<- hcx] at lx1 s2 kx
      rw [<- hcy] at ly1 s1 s2 ky
      rw [<- hcx, <- hcy] at HS
      have HLV := Lib.hid hlv
      clear hcx hcy HCQ hlv
      go_big_region_o
      all_goals go_wp2
      refine ⟨⟨jp, A, y :: B, rfl, ?_, by simpa using HS.out⟩, ?_⟩
      ·have h1 := HB.out
       have h2 := HJ.out
       refine ⟨by rw [h1.1]; simp, fun z hz => ?_, by have := h1.2.2; simp only [List.length_append, List.length_cons, List.length_nil] at this; omega⟩
       rcases List.mem_cons.1 hz with rfl | hz
       ·exact decide_eq_true HLV.out
       ·exact h1.2.1 _ hz
      ·have := HJ.out.1; simp only [intOf, Int.toNat_natCast]; omega
     ·go_wp2_with fail
      refine wp_region_sl mixed (by kernel_rfl) hs3 ?_
      repeat (quiet_step (first | (go_at_fn gf; exact HCQ.out _)))
      refine wpQuiet_nil ?_
      rintro wq ⟨p, rfl⟩
      have HLV := Lib.hid hlv
      go_wp2
      refine ⟨⟨i + 1, X1 ++ [x], X2', by go_num, ?_, ?_⟩, ?_⟩
      ·have := HI.out
       exact ⟨by rw [this.2]; simp, .inl (by rw [this.1]; simp; omega)⟩
      ·have h1 := HB.out
       have hst : Srt.Sorted (ltC cf) (A ++ y :: B) := by
        have := (Srt.srt_st HO.out X1).1
        rw [h1.1] at this; simpa using this
       have : Srt.srt (ltC cf) (X1 ++ [x]) = A ++ y :: x :: B := by
        rw [Srt.srt_snoc, h1.1, List.append_assoc]
        exact Srt.ins_stop HO.out hst (decide_eq_false (Int.not_lt.2 HLV.out)) h1.2.1
       rw [this]
       obtain ⟨wq, hq⟩ := p
       show SL _ _ _ _ _ _ wq
       rw [<- HL2.out] at hq; simpa using hq
      ·simp only [intOf]; omega
  ·have hltz : ¬ ((i : Int) < (b : Int)) := by omega
   have HE : Hid (X2 = [] /\ X = X1) := by
    have h1 := HA.out; have h3 := HX.out
    have h4 : X2 = [] := by
     rcases h3 with ⟨h3, h4 | ⟨h4, h5⟩⟩
     ·have := congrArg List.length h3; simp only [List.length_append] at this; exact List.length_eq_zero_iff.1 (by omega)
     ·rw [h4] at h3; exact (List.append_eq_nil_iff.1 h3.symm).2
    exact ⟨h4, by rw [h3.1, h4, List.append_nil]⟩
   have HS := Lib.hid hs1
   clear hs1 hlt
   go_wp2
   go_end0
   refine ⟨rfl, ?_⟩
   have := HS.out
   rw [HE.out.1] at this
   rw [HE.out.2]; simpa using this
end
end Fl
end Go.Proofs.YtneghhbclefmoaaGreat
end
section
namespace Go.Proofs.YtneghhbclefmoaaGreat
namespace Fl
open Go.RowKit Go.Shelf Go.Sort
set_option maxRecDepth 100000
section
variable {α : Type} [Inhabited α] {enc : α -> List Value} {k : Nat} {w0 : World} {blk off : Nat}
theorem mid_num {i j : Nat} (h : (i : Int) + j <= 4000000) : ∃ s h : Nat, s = i + j /\ h = (i + j) / 2 /\ IntKind.i64.wrap ((i : Int) + j) = (s : Int) /\ IntKind.u64.wrap (s : Int) = (s : Int) /\ IntKind.i64.wrap ((s : Int) / 2) = (h : Int) := by
 refine ⟨i + j, (i + j) / 2, rfl, rfl, ?_, ?_, ?_⟩
 ·rw [IntWalk.i64_in _ (by omega)]; omega
 ·simp only [IntKind.wrap, IntKind.signed, IntKind.bits]; simp; omega
 ·rw [IntWalk.i64_in _ (by omega)]; omega
theorem load_at {l : List α} {n : Nat} (g : SG enc k w0 blk off n) (hn : l.length = n) (P : Program) {i : Nat} {y : α} (h : ∃ h : i < l.length, l[i]'h = y) (p : InSL enc k w0 blk off l) :
  Sem.run P (loadCellsFrom ⟨blk, off + i * k, none⟩ 0 k #[]) p.W = .ok (enc y).toArray p.W := by
 obtain ⟨h1, h2⟩ := h
 have := p.h.load g hn P i h1
 rwa [h2] at this
set_option maxHeartbeats 2000000 in
theorem symMerge_one {n : Nat} (g : SG enc k w0 blk off n) (aE : ∀ w, (isAgg 94).run Tryz.prog w = .ok true w) (zE : ∀ w, (Go.sizeOf 94).run Tryz.prog w = .ok k w) (hn : n <= 1000000) (cap : Nat)
  (gf : Nat) (eg : ∀ args w, (callFunc gf args).run Tryz.prog w = .ok (.enter gf args) w) (cf : α -> α -> Int) (hC : CmpOk gf enc k cf w0 blk off n) (ho : Srt.Ord (ltC cf))
  (P : List α) (x : α) (Y Q : List α) (a m b : Nat) (hl : (P ++ (x :: (Y ++ Q))).length = n) (ha : P.length = a) (hm : m = a + 1) (hb : m + Y.length = b) (hY : Srt.Sorted (ltC cf) Y)
  (W : World) (hs : SL enc k w0 blk off (P ++ (x :: (Y ++ Q))) W) :
  Calls Tryz.prog 204 #[.slice (some ⟨blk, off, none⟩) n cap, .int .i64 a, .int .i64 m, .int .i64 b, .func (.func gf) #[] #[]] W fun e w' => e = .returned (.tuple #[]) /\ ∃ Z, Srt.St (ltC cf) Z ([x] ++ Y) /\ SL enc k w0 blk off (P ++ (Z ++ Q)) w' := by
 have mixed : Tryz.prog.follows .mixedOrders = true := by kernel_rfl
 have HG := Lib.hid g
 have HO := Lib.hid ho
 have HCC := Lib.hid hC
 have HY := Lib.hid hY
 have HA := Lib.hid (And.intro ha (And.intro hm hb))
 obtain ⟨L, hL⟩ : ∃ L, P ++ (x :: (Y ++ Q)) = L := ⟨_, rfl⟩
 rw [hL] at hl hs
 have HL := Lib.hid (And.intro hL hl)
 have hbn : (b : Int) <= n := by rw [<- hl, <- hL]; simp only [List.length_append, List.length_cons]; omega
 have hmb : (m : Int) <= b := by omega
 have hnn : (n : Int) <= 1000000 := by omega
 have w1 : IntKind.i64.wrap ((m : Int) - a) = 1 := by rw [IntWalk.i64_in _ (by omega)]; omega
 have GL : Hid (∀ t, t < Y.length -> ∃ h : m + t < L.length, L[m + t]'h = Y[t]!) := by
  intro t ht
  have hlt : m + t < L.length := by rw [hl]; omega
  refine ⟨hlt, ?_⟩
  have h0 : L = (P ++ [x]) ++ (Y ++ Q) := by rw [<- hL]; simp
  simp only [h0]
  rw [List.getElem_append_right (by simp; omega), List.getElem_append_left (by simp; omega)]
  simp only [getElem!_pos Y t ht]
  congr 1; simp; omega
 have GX : Hid (∃ h : a < L.length, L[a]'h = x) := by
  have hlt : a < L.length := by rw [hl]; omega
  refine ⟨hlt, ?_⟩
  simp only [<- hL]; rw [List.getElem_append_right (by omega)]; simp [ha]
 haveI : Nonempty (InSL enc k w0 blk off L) := ⟨⟨_, hs⟩⟩
 clear g ho hC ha hm hb hl hn hY hL
 go_enter Tryz.func204, Tryz.ntmps204
 go_wp2
 go_loopw [10, 11] (fun vi vj wr => ∃ i j : Nat, vi = .int .i64 i /\ vj = .int .i64 j /\ Hid (m <= i /\ i <= j /\ j <= b /\ (∀ t, t < Y.length -> m + t < i -> ltC cf Y[t]! x = true) /\ (∀ t, t < Y.length -> j <= m + t -> ltC cf Y[t]! x = false)) /\ SL enc k w0 blk off L wr) (fun vi vj _ => (intOf vj).toNat - (intOf vi).toNat)
 case atStart => exact ⟨m, b, rfl, rfl, Lib.hid ⟨Nat.le_refl _, by omega, Nat.le_refl _, fun t _ h => by omega, fun t h1 h2 => by have := HA.out; omega⟩, hs⟩
 case round =>
  obtain ⟨i, j, rfl, rfl, HI, hs1⟩ := hrel
  by_cases hlt : i < j
  ·have hltz : (i : Int) < (j : Int) := by omega
   obtain ⟨s, h, hs', hh, wA, wB, wC⟩ := mid_num (i := i) (j := j) (by have := HI.out; omega)
   have w2 : IntKind.i64.wrap ((h : Int) + 1) = ((h + 1 : Nat) : Int) := by have := HI.out; rw [IntWalk.i64_in _ (by omega)]; omega
   have HH : Hid (h = (i + j) / 2 /\ i < j /\ h - m < Y.length /\ m <= h) := by have := HI.out; have := HA.out; exact ⟨hh, hlt, by omega, by omega⟩
   obtain ⟨y, hy⟩ : ∃ y, Y[h - m]! = y := ⟨_, rfl⟩
   have bh : (h : Int) < n := by have := HH.out; have := HA.out; omega
   have ba : (a : Int) < n := by have := HA.out; have := HH.out; omega
   have lh : ∀ p : InSL enc k w0 blk off L, Sem.run Tryz.prog (loadCellsFrom ⟨blk, off + h * k, none⟩ 0 k #[]) p.W = .ok (enc y).toArray p.W := fun p => by
    have h1 := GL.out (h - m) HH.out.2.2.1
    rw [hy] at h1
    refine load_at HG.out HL.out.2 _ ?_ p
    have h2 := HH.out.2.2.2
    obtain ⟨h3, h4⟩ := h1
    have e : m + (h - m) = h := by omega
    simp only [e] at h3 h4
    exact ⟨h3, h4⟩
   have la : ∀ p : InSL enc k w0 blk off L, Sem.run Tryz.prog (loadCellsFrom ⟨blk, off + a * k, none⟩ 0 k #[]) p.W = .ok (enc x).toArray p.W := fun p => load_at HG.out HL.out.2 _ GX.out p
   have HCQ := Lib.hid (fun p => HCC.out.quiet HL.out.2 y x p)
   have HYY := Lib.hid hy
   clear hs' hh hlt hy
   by_cases hlv : cf y x < 0
   ·go_wp2_with fail
    refine wp_region_sl mixed (by kernel_rfl) hs1 ?_
    repeat (quiet_step (first | (go_at_fn gf; exact HCQ.out _)))
    refine wpQuiet_nil ?_
    rintro wq ⟨p, rfl⟩
    have HLV := Lib.hid hlv
    go_wp2
    refine ⟨⟨h + 1, j, rfl, rfl, ?_, p.h⟩, ?_⟩
    ·obtain ⟨a1, a2, a3, a4⟩ := HH.out
     obtain ⟨b1, b2, b3, b4, b5⟩ := HI.out
     refine ⟨by omega, by omega, b3, fun t ht ht2 => ?_, b5⟩
     have e : ltC cf Y[h - m]! x = true := by rw [HYY.out]; exact decide_eq_true HLV.out
     rcases Nat.lt_or_ge t (h - m) with hj | hj
     ·exact HO.out.lt_of' e (Srt.sorted_get HY.out hj a3)
     ·rw [show t = h - m by omega]; exact e
    ·have := HH.out; simp only [intOf, Int.toNat_natCast]; omega
   ·go_wp2_with fail
    refine wp_region_sl mixed (by kernel_rfl) hs1 ?_
    repeat (quiet_step (first | (go_at_fn gf; exact HCQ.out _)))
    refine wpQuiet_nil ?_
    rintro wq ⟨p, rfl⟩
    have HLV := Lib.hid hlv
    go_wp2
    refine ⟨⟨i, h, rfl, rfl, ?_, p.h⟩, ?_⟩
    ·obtain ⟨a1, a2, a3, a4⟩ := HH.out
     obtain ⟨b1, b2, b3, b4, b5⟩ := HI.out
     refine ⟨b1, by omega, by omega, b4, fun t ht ht2 => ?_⟩
     have e : ltC cf Y[h - m]! x = false := by rw [HYY.out]; exact decide_eq_false (Int.not_lt.2 HLV.out)
     rcases Nat.lt_or_ge (h - m) t with hj | hj
     ·exact HO.out.trans (Srt.sorted_get HY.out hj ht) e
     ·rw [show t = h - m by omega]; exact e
    ·have := HH.out; simp only [intOf, Int.toNat_natCast]; omega
  ·have hltz : ¬ ((i : Int) < (j : Int)) := by omega
   obtain ⟨i1, hi1⟩ : ∃ i1, i1 = i - 1 := ⟨_, rfl⟩
   obtain ⟨B1, hB1⟩ : ∃ B1, Y.take (i - m) = B1 := ⟨_, rfl⟩
   obtain ⟨B2, hB2⟩ : ∃ B2, Y.drop (i - m) = B2 := ⟨_, rfl⟩
   have HB : Hid (Y = B1 ++ B2 /\ a + B1.length = i1 /\ (∀ b ∈ B1, ltC cf b x = true) /\ (∀ b ∈ B2, ltC cf b x = false)) := by
    obtain ⟨b1, b2, b3, b4, b5⟩ := HI.out
    obtain ⟨a1, a2, a3⟩ := HA.out
    refine ⟨by rw [<- hB1, <- hB2, List.take_append_drop], by rw [<- hB1, List.length_take]; omega, ?_, ?_⟩
    ·rw [<- hB1]; exact Srt.all_take fun t h1 h2 => b4 t h1 (by omega)
    ·rw [<- hB2]; exact Srt.all_drop fun t h1 h2 => b5 t h1 (by omega)
   have w3 : IntKind.i64.wrap ((i : Int) - 1) = (i1 : Int) := by have := HI.out; have := HA.out; rw [IntWalk.i64_in _ (by omega)]; omega
   have HI1 : Hid (i1 + 1 = i /\ i <= b) := by have := HI.out; have := HA.out; exact ⟨by omega, by omega⟩
   have hs2 : SL enc k w0 blk off (P ++ ([] ++ x :: (B1 ++ (B2 ++ Q)))) wr := by
    rw [<- HL.out.1, HB.out.1] at hs1; simpa using hs1
   clear hlt hB1 hB2 hi1 hs1
   go_wp2
   go_loopw [13] (fun vk wr2 => ∃ (kk : Nat) (B1a B1b : List α), vk = .int .i64 kk /\ Hid (B1 = B1a ++ B1b /\ kk = a + B1a.length) /\ SL enc k w0 blk off (P ++ (B1a ++ x :: (B1b ++ (B2 ++ Q)))) wr2) (fun vk _ => i - (intOf vk).toNat)
   case atStart => exact ⟨a, [], B1, rfl, Lib.hid ⟨rfl, rfl⟩, hs2⟩
   case round =>
    obtain ⟨kk, B1a, B1b, rfl, HK, hs3⟩ := hrel
    rcases B1b with _ | ⟨y, B1b⟩
    ·have hk : ¬ ((kk : Int) < (i1 : Int)) := by
      have h1 := HK.out; have h2 := HB.out.2.1
      rw [List.append_nil] at h1
      rw [h1.1] at h2; omega
     have HS := Lib.hid hs3
     clear hs2 hs3
     go_wp2
     refine bodyPost_ret (results_none rfl _ _ _) rfl ?_
     refine ⟨rfl, B1 ++ x :: B2, ?_, ?_⟩
     ·have h1 := HB.out
      have hy := HY.out
      rw [h1.1] at hy ⊢
      exact Srt.St.insertL HO.out hy h1.2.2.1 h1.2.2.2
     ·have h1 := HK.out.1
      rw [List.append_nil] at h1
      rw [h1]; simpa using HS.out
    ·have hk : (kk : Int) < (i1 : Int) := by
      have h1 := HK.out; have h2 := HB.out.2.1
      rw [h1.1] at h2; simp only [List.length_append, List.length_cons] at h2; omega
     obtain ⟨k1, hk1⟩ : ∃ k1, k1 = kk + 1 := ⟨_, rfl⟩
     have w4 : IntKind.i64.wrap ((kk : Int) + 1) = (k1 : Int) := by have := HI1.out; rw [IntWalk.i64_in _ (by omega)]; omega
     have b1 : (kk : Int) < n := by have := HI1.out; omega
     have b2 : (k1 : Int) < n := by have := HI1.out; omega
     obtain ⟨M, hM⟩ : ∃ M, (P ++ B1a) ++ x :: ([] ++ y :: (B1b ++ (B2 ++ Q))) = M := ⟨_, rfl⟩
     have hs4 : SL enc k w0 blk off M wr := by rw [<- hM]; simpa using hs3
     have hMl : M.length = n := by
      rw [<- hM, <- HL.out.2, <- HL.out.1, HB.out.1, HK.out.1]; simp only [List.length_append, List.length_cons, List.length_nil]; omega
     have hu : kk = (P ++ B1a).length := by rw [List.length_append, HA.out.1]; exact HK.out.2
     have g1 : ∃ h : kk < M.length, M[kk]'h = x := ⟨by rw [<- hM, hu]; simp, by simp only [<- hM, hu]; simp⟩
     have g2 : ∃ h : k1 < M.length, M[k1]'h = y := by
      have h0 : M = ((P ++ B1a) ++ [x]) ++ y :: (B1b ++ (B2 ++ Q)) := by rw [<- hM]; simp
      have h1 : k1 = ((P ++ B1a) ++ [x]).length := by rw [hk1, hu]; simp only [List.length_append, List.length_cons, List.length_nil]
      exact ⟨by rw [h0, h1]; simp, by simp only [h0, h1]; simp⟩
     have lx1 : Sem.run Tryz.prog (loadCellsFrom ⟨blk, off + kk * k, none⟩ 0 k #[]) wr.drew = .ok (enc x).toArray wr.drew := load_at HG.out hMl _ g1 ⟨wr.drew, hs4.drew⟩
     have ly1 : Sem.run Tryz.prog (loadCellsFrom ⟨blk, off + k1 * k, none⟩ 0 k #[]) wr.drew = .ok (enc y).toArray wr.drew := load_at HG.out hMl _ g2 ⟨wr.drew, hs4.drew⟩
     have s1 := hs4.st1 HG.out hMl Tryz.prog kk g1.1 y
     have s2 := hs4.st2 HG.out hMl Tryz.prog kk k1 g1.1 g2.1 y x
     have HS : Hid (SL enc k w0 blk off (P ++ ((B1a ++ [y]) ++ x :: (B1b ++ (B2 ++ Q)))) ((wr.drew.setCells blk (off + kk * k) (enc y)).setCells blk (off + k1 * k) (enc x))) := by
      rw [<- hM] at hs4
      have := hs4.swapped HG.out
      rw [show (P ++ B1a).length + 1 + ([] : List α).length = k1 by simp only [List.length_nil]; omega, <- hu] at this
      show SL _ _ _ _ _ _ _
      have e : (P ++ B1a) ++ y :: ([] ++ x :: (B1b ++ (B2 ++ Q))) = P ++ ((B1a ++ [y]) ++ x :: (B1b ++ (B2 ++ Q))) := by simp
      rwa [<- e]
     have kx : (enc x).length = k := HG.out.hk x
     have ky : (enc y).length = k := HG.out.hk y
     have HK1 : Hid (k1 = kk + 1 /\ kk < i1) := ⟨hk1, by omega⟩
     clear hs2 hs3 hs4 hk1 hM hMl hu g1 g2
     obtain ⟨cx, hcx⟩ : ∃ cx, cx = enc x := ⟨_, rfl⟩
     obtain ⟨cy, hcy⟩ : ∃ cy, cy = enc y := ⟨_, rfl⟩
     rw [<- hcx] at lx1 s2 kx
     rw [<- hcy] at ly1 s1 s2 ky
     rw [<- hcx, <- hcy] at HS
     clear hcx hcy
     go_wp2_with fail
     go_big_region_o
     all_goals go_wp2
     refine ⟨⟨k1, B1a ++ [y], B1b, rfl, ?_, HS.out⟩, ?_⟩
     ·have h1 := HK.out; have h2 := HK1.out.1
      exact ⟨by rw [h1.1]; simp, by rw [h2, h1.2]; simp; omega⟩
     ·have := HK1.out; have := HI1.out; simp only [intOf, Int.toNat_natCast]; omega
end
end Fl
end Go.Proofs.YtneghhbclefmoaaGreat
end
section
namespace Go.Proofs.YtneghhbclefmoaaGreat
namespace Fl
open Go.RowKit Go.Shelf Go.Sort
set_option maxRecDepth 100000
section
variable {α : Type} [Inhabited α] {enc : α -> List Value} {k : Nat} {w0 : World} {blk off : Nat}
set_option maxHeartbeats 2000000 in
theorem symMerge_last {n : Nat} (g : SG enc k w0 blk off n) (aE : ∀ w, (isAgg 94).run Tryz.prog w = .ok true w) (zE : ∀ w, (Go.sizeOf 94).run Tryz.prog w = .ok k w) (hn : n <= 1000000) (cap : Nat)
  (gf : Nat) (eg : ∀ args w, (callFunc gf args).run Tryz.prog w = .ok (.enter gf args) w) (cf : α -> α -> Int) (hC : CmpOk gf enc k cf w0 blk off n) (ho : Srt.Ord (ltC cf))
  (P X : List α) (y : α) (Q : List α) (a m b : Nat) (hl : (P ++ (X ++ y :: Q)).length = n) (ha : P.length = a) (hm : a + X.length = m) (hb : b = m + 1) (h1 : X.length ≠ 1) (hX : Srt.Sorted (ltC cf) X)
  (W : World) (hs : SL enc k w0 blk off (P ++ (X ++ y :: Q)) W) :
  Calls Tryz.prog 204 #[.slice (some ⟨blk, off, none⟩) n cap, .int .i64 a, .int .i64 m, .int .i64 b, .func (.func gf) #[] #[]] W fun e w' => e = .returned (.tuple #[]) /\ ∃ Z, Srt.St (ltC cf) Z (X ++ [y]) /\ SL enc k w0 blk off (P ++ (Z ++ Q)) w' := by
 have mixed : Tryz.prog.follows .mixedOrders = true := by kernel_rfl
 have HG := Lib.hid g
 have HO := Lib.hid ho
 have HCC := Lib.hid hC
 have HX := Lib.hid hX
 have HA := Lib.hid (And.intro ha (And.intro hm hb))
 obtain ⟨L, hL⟩ : ∃ L, P ++ (X ++ y :: Q) = L := ⟨_, rfl⟩
 rw [hL] at hl hs
 have HL := Lib.hid (And.intro hL hl)
 have hbn : (b : Int) <= n := by rw [<- hl, <- hL]; simp only [List.length_append, List.length_cons]; omega
 have hmb : (m : Int) <= b := by omega
 have hnn : (n : Int) <= 1000000 := by omega
 obtain ⟨xl, hxl⟩ : ∃ xl, xl = X.length := ⟨_, rfl⟩
 have w1 : IntKind.i64.wrap ((m : Int) - a) = (xl : Int) := by rw [IntWalk.i64_in _ (by omega)]; omega
 have w1' : IntKind.i64.wrap ((b : Int) - m) = 1 := by rw [IntWalk.i64_in _ (by omega)]; omega
 have x1 : xl ≠ 1 := by omega
 have x2 : ((xl : Int) == 1) = false := by simp; omega
 have x3 : ((xl : Int) = 1) = False := by simp; omega
 have GL : Hid (∀ t, t < X.length -> ∃ h : a + t < L.length, L[a + t]'h = X[t]!) := by
  intro t ht
  have hlt : a + t < L.length := by rw [hl]; omega
  refine ⟨hlt, ?_⟩
  simp only [<- hL]
  rw [List.getElem_append_right (by omega), List.getElem_append_left (by omega)]
  simp only [getElem!_pos X t ht]
  congr 1; omega
 have GX : Hid (∃ h : m < L.length, L[m]'h = y) := by
  have h0 : L = (P ++ X) ++ y :: Q := by rw [<- hL]; simp
  have h1 : m = (P ++ X).length := by simp; omega
  exact ⟨by rw [h0, h1]; simp, by simp only [h0, h1]; simp⟩
 haveI : Nonempty (InSL enc k w0 blk off L) := ⟨⟨_, hs⟩⟩
 clear g ho hC ha hm hb hl hn hX hL hxl h1
 go_enter Tryz.func204, Tryz.ntmps204
 go_wp2
 go_loopw [14, 15] (fun vi vj wr => ∃ i j : Nat, vi = .int .i64 i /\ vj = .int .i64 j /\ Hid (a <= i /\ i <= j /\ j <= m /\ (∀ t, t < X.length -> a + t < i -> ltC cf y X[t]! = false) /\ (∀ t, t < X.length -> j <= a + t -> ltC cf y X[t]! = true)) /\ SL enc k w0 blk off L wr) (fun vi vj _ => (intOf vj).toNat - (intOf vi).toNat)
 case atStart => exact ⟨a, m, rfl, rfl, Lib.hid ⟨Nat.le_refl _, by have := HA.out; omega, Nat.le_refl _, fun t _ h => by omega, fun t h1 h2 => by have := HA.out; omega⟩, hs⟩
 case round =>
  obtain ⟨i, j, rfl, rfl, HI, hs1⟩ := hrel
  by_cases hlt : i < j
  ·have hltz : (i : Int) < (j : Int) := by omega
   obtain ⟨s, h, hs', hh, wA, wB, wC⟩ := mid_num (i := i) (j := j) (by have := HI.out; omega)
   have w2 : IntKind.i64.wrap ((h : Int) + 1) = ((h + 1 : Nat) : Int) := by have := HI.out; rw [IntWalk.i64_in _ (by omega)]; omega
   have HH : Hid (h = (i + j) / 2 /\ i < j /\ h - a < X.length /\ a <= h) := by have := HI.out; have := HA.out; exact ⟨hh, hlt, by omega, by omega⟩
   obtain ⟨x, hx⟩ : ∃ x, X[h - a]! = x := ⟨_, rfl⟩
   have bh : (h : Int) < n := by have := HH.out; have := HA.out; omega
   have ba : (m : Int) < n := by have := HA.out; omega
   have lh : ∀ p : InSL enc k w0 blk off L, Sem.run Tryz.prog (loadCellsFrom ⟨blk, off + h * k, none⟩ 0 k #[]) p.W = .ok (enc x).toArray p.W := fun p => by
    have h1 := GL.out (h - a) HH.out.2.2.1
    rw [hx] at h1
    refine load_at HG.out HL.out.2 _ ?_ p
    have h2 := HH.out.2.2.2
    obtain ⟨h3, h4⟩ := h1
    have e : a + (h - a) = h := by omega
    simp only [e] at h3 h4
    exact ⟨h3, h4⟩
   have la : ∀ p : InSL enc k w0 blk off L, Sem.run Tryz.prog (loadCellsFrom ⟨blk, off + m * k, none⟩ 0 k #[]) p.W = .ok (enc y).toArray p.W := fun p => load_at HG.out HL.out.2 _ GX.out p
   have HCQ := Lib.hid (fun p => HCC.out.quiet HL.out.2 y x p)
   have HYY := Lib.hid hx
   clear hs' hh hlt hx
   by_cases hlv : cf y x < 0
   ·go_wp2_with fail
    refine wp_region_sl mixed (by kernel_rfl) hs1 ?_
    repeat (quiet_step (first | (go_at_fn gf; exact HCQ.out _)))
    refine wpQuiet_nil ?_
    rintro wq ⟨p, rfl⟩
    have HLV := Lib.hid hlv
    go_wp2
    refine ⟨⟨i, h, rfl, rfl, ?_, p.h⟩, ?_⟩
    ·obtain ⟨a1, a2, a3, a4⟩ := HH.out
     obtain ⟨b1, b2, b3, b4, b5⟩ := HI.out
     refine ⟨b1, by omega, by omega, b4, fun t ht ht2 => ?_⟩
     have e : ltC cf y X[h - a]! = true := by rw [HYY.out]; exact decide_eq_true HLV.out
     rcases Nat.lt_or_ge (h - a) t with hj | hj
     ·exact HO.out.lt_of e (Srt.sorted_get HX.out hj ht)
     ·rw [show t = h - a by omega]; exact e
    ·have := HH.out; simp only [intOf, Int.toNat_natCast]; omega
   ·go_wp2_with fail
    refine wp_region_sl mixed (by kernel_rfl) hs1 ?_
    repeat (quiet_step (first | (go_at_fn gf; exact HCQ.out _)))
    refine wpQuiet_nil ?_
    rintro wq ⟨p, rfl⟩
    have HLV := Lib.hid hlv
    have hd : decide (cf y x < 0) = false := decide_eq_false (by omega)
    go_wp2
    ·refine ⟨⟨h + 1, j, rfl, rfl, ?_, p.h⟩, ?_⟩
     ·obtain ⟨a1, a2, a3, a4⟩ := HH.out
      obtain ⟨b1, b2, b3, b4, b5⟩ := HI.out
      refine ⟨by omega, by omega, b3, fun t ht ht2 => ?_, b5⟩
      have e : ltC cf y X[h - a]! = false := by rw [HYY.out]; exact decide_eq_false (Int.not_lt.2 HLV.out)
      rcases Nat.lt_or_ge t (h - a) with hj | hj
      ·exact HO.out.trans e (Srt.sorted_get HX.out hj a3)
      ·rw [show t = h - a by omega]; exact e
     ·have := HH.out; simp only [intOf, Int.toNat_natCast]; omega
    ·rename_i hh; rw [hd] at hh; exact absurd hh (by decide)
  ·have hltz : ¬ ((i : Int) < (j : Int)) := by omega
   obtain ⟨A1, hA1⟩ : ∃ A1, X.take (i - a) = A1 := ⟨_, rfl⟩
   obtain ⟨A2, hA2⟩ : ∃ A2, X.drop (i - a) = A2 := ⟨_, rfl⟩
   have HB : Hid (X = A1 ++ A2 /\ a + A1.length = i /\ i + A2.length = m /\ (∀ b ∈ A1, ltC cf y b = false) /\ (∀ b ∈ A2, ltC cf y b = true)) := by
    obtain ⟨b1, b2, b3, b4, b5⟩ := HI.out
    obtain ⟨a1, a2, a3⟩ := HA.out
    refine ⟨by rw [<- hA1, <- hA2, List.take_append_drop], by rw [<- hA1, List.length_take]; omega, by rw [<- hA2, List.length_drop]; omega, ?_, ?_⟩
    ·rw [<- hA1]; exact Srt.all_take fun t h1 h2 => b4 t h1 (by omega)
    ·rw [<- hA2]; exact Srt.all_drop fun t h1 h2 => b5 t h1 (by omega)
   have HI1 : Hid (i <= m) := by have := HI.out; show i <= m; omega
   have hs2 : SL enc k w0 blk off (P ++ (A1 ++ (A2 ++ y :: ([] ++ Q)))) wr := by
    rw [<- HL.out.1, HB.out.1] at hs1; simpa using hs1
   clear hlt hA1 hA2 hs1
   go_wp2
   go_loopw [17] (fun vk wr2 => ∃ (kk : Nat) (B1 B2 : List α), vk = .int .i64 kk /\ Hid (A2 = B1 ++ B2 /\ kk = i + B1.length) /\ SL enc k w0 blk off (P ++ (A1 ++ (B1 ++ y :: (B2 ++ Q)))) wr2) (fun vk _ => (intOf vk).toNat)
   case atStart => exact ⟨m, A2, [], rfl, Lib.hid ⟨by simp, by have := HB.out; omega⟩, hs2⟩
   case round =>
    obtain ⟨kk, B1, B2, rfl, HK, hs3⟩ := hrel
    rcases List.eq_nil_or_concat B1 with rfl | ⟨B1, v, rfl⟩
    ·have hk : ¬ ((i : Int) < (kk : Int)) := by have h1 := HK.out.2; simp only [List.length_nil] at h1; omega
     have HS := Lib.hid hs3
     clear hs2 hs3
     go_wp2
     refine bodyPost_ret (results_none rfl _ _ _) rfl ?_
     refine ⟨rfl, A1 ++ y :: A2, ?_, ?_⟩
     ·have h1 := HB.out
      have hy := HX.out
      rw [h1.1] at hy ⊢
      exact Srt.St.insert HO.out hy h1.2.2.2.1 h1.2.2.2.2
     ·have h1 := HK.out.1
      rw [List.nil_append] at h1
      rw [h1]; simpa using HS.out
    ·rw [List.concat_eq_append] at HK hs3
     have hk : (i : Int) < (kk : Int) := by have h1 := HK.out.2; simp only [List.length_append, List.length_cons, List.length_nil] at h1; omega
     obtain ⟨k1, hk1⟩ : ∃ k1, k1 = i + B1.length := ⟨_, rfl⟩
     have HK1 : Hid (kk = k1 + 1 /\ kk <= m) := by
      have h1 := HK.out; have h2 := HB.out.2.2.1; rw [h1.1] at h2; simp only [List.length_append, List.length_cons, List.length_nil] at h1 h2; exact ⟨by omega, by omega⟩
     have w4 : IntKind.i64.wrap ((kk : Int) - 1) = (k1 : Int) := by have := HK1.out; have := HI1.out; rw [IntWalk.i64_in _ (by omega)]; omega
     have b1 : (kk : Int) < n := by have := HK1.out; have := HA.out; omega
     have b2 : (k1 : Int) < n := by have := HK1.out; omega
     obtain ⟨M, hM⟩ : ∃ M, (P ++ (A1 ++ B1)) ++ v :: ([] ++ y :: (B2 ++ Q)) = M := ⟨_, rfl⟩
     have hs4 : SL enc k w0 blk off M wr := by rw [<- hM]; simpa using hs3
     have hMl : M.length = n := by
      rw [<- hM, <- HL.out.2, <- HL.out.1, HB.out.1, HK.out.1]; simp only [List.length_append, List.length_cons, List.length_nil]; omega
     have hu : k1 = (P ++ (A1 ++ B1)).length := by rw [List.length_append, List.length_append, HA.out.1, hk1]; have := HB.out; omega
     have g1 : ∃ h : k1 < M.length, M[k1]'h = v := ⟨by rw [<- hM, hu]; simp, by simp only [<- hM, hu]; simp⟩
     have g2 : ∃ h : kk < M.length, M[kk]'h = y := by
      have h0 : M = ((P ++ (A1 ++ B1)) ++ [v]) ++ y :: (B2 ++ Q) := by rw [<- hM]; simp
      have h1 : kk = ((P ++ (A1 ++ B1)) ++ [v]).length := by rw [HK1.out.1, hu]; simp only [List.length_append, List.length_cons, List.length_nil]
      exact ⟨by rw [h0, h1]; simp, by simp only [h0, h1]; simp⟩
     have lx1 : Sem.run Tryz.prog (loadCellsFrom ⟨blk, off + k1 * k, none⟩ 0 k #[]) wr.drew = .ok (enc v).toArray wr.drew := load_at HG.out hMl _ g1 ⟨wr.drew, hs4.drew⟩
     have ly1 : Sem.run Tryz.prog (loadCellsFrom ⟨blk, off + kk * k, none⟩ 0 k #[]) wr.drew = .ok (enc y).toArray wr.drew := load_at HG.out hMl _ g2 ⟨wr.drew, hs4.drew⟩
     have s1 := hs4.st1 HG.out hMl Tryz.prog kk g2.1 v
     have s2 := hs4.st2 HG.out hMl Tryz.prog kk k1 g2.1 g1.1 v y
     have HS : Hid (SL enc k w0 blk off (P ++ (A1 ++ (B1 ++ y :: ((v :: B2) ++ Q)))) ((wr.drew.setCells blk (off + kk * k) (enc v)).setCells blk (off + k1 * k) (enc y))) := by
      rw [<- hM] at hs4
      have := hs4.swapped' HG.out
      rw [show (P ++ (A1 ++ B1)).length + 1 + ([] : List α).length = kk by have := HK1.out; simp only [List.length_nil]; omega, <- hu] at this
      show SL _ _ _ _ _ _ _
      have e : (P ++ (A1 ++ B1)) ++ y :: ([] ++ v :: (B2 ++ Q)) = P ++ (A1 ++ (B1 ++ y :: ((v :: B2) ++ Q))) := by simp
      rwa [<- e]
     have kx : (enc v).length = k := HG.out.hk v
     have ky : (enc y).length = k := HG.out.hk y
     clear hs2 hs3 hs4 hM hMl hu g1 g2
     obtain ⟨cx, hcx⟩ : ∃ cx, cx = enc v := ⟨_, rfl⟩
     obtain ⟨cy, hcy⟩ : ∃ cy, cy = enc y := ⟨_, rfl⟩
     rw [<- hcx] at lx1 s1 s2 kx
     rw [<- hcy] at ly1 s2 ky
     rw [<- hcx, <- hcy] at HS
     have HKE := Lib.hid hk1
     clear hcx hcy hk1
     go_wp2_with fail
     go_big_region_o
     all_goals go_wp2
     refine ⟨⟨k1, B1, v :: B2, rfl, ?_, HS.out⟩, ?_⟩
     ·have h1 := HK.out
      exact ⟨by rw [h1.1]; simp, HKE.out⟩
     ·have := HK1.out; simp only [intOf, Int.toNat_natCast]; omega
end
end Fl
end Go.Proofs.YtneghhbclefmoaaGreat
end
section
namespace Go.Proofs.YtneghhbclefmoaaGreat
namespace Fl
open Go.RowKit Go.Shelf Go.Sort
set_option maxRecDepth 100000
section
variable {α : Type} [Inhabited α] {enc : α -> List Value} {k : Nat} {w0 : World} {blk off : Nat}
def SymOk (gf : Nat) (enc : α -> List Value) (k : Nat) (cf : α -> α -> Int) (w0 : World) (blk off n cap N : Nat) : Prop :=
 ∀ (P X Y Q : List α) (a m b : Nat) (W : World), X.length + Y.length < N -> (P ++ (X ++ (Y ++ Q))).length = n -> P.length = a -> a + X.length = m -> m + Y.length = b -> 0 < X.length -> 0 < Y.length -> Srt.Sorted (ltC cf) X -> Srt.Sorted (ltC cf) Y -> SL enc k w0 blk off (P ++ (X ++ (Y ++ Q))) W ->
  Calls Tryz.prog 204 #[.slice (some ⟨blk, off, none⟩) n cap, .int .i64 a, .int .i64 m, .int .i64 b, .func (.func gf) #[] #[]] W fun e w' => e = .returned (.tuple #[]) /\ ∃ Z, Srt.St (ltC cf) Z (X ++ Y) /\ SL enc k w0 blk off (P ++ (Z ++ Q)) w'
end
end Fl
end Go.Proofs.YtneghhbclefmoaaGreat
end
section
namespace Go.Proofs.YtneghhbclefmoaaGreat
namespace Fl
open Go.RowKit Go.Shelf Go.Sort
set_option maxRecDepth 100000
section
variable {α : Type} [Inhabited α] {enc : α -> List Value} {k : Nat} {w0 : World} {blk off : Nat}
set_option maxHeartbeats 20000000 in
theorem symMerge_Fa {n : Nat} (g : SG enc k w0 blk off n) (aE : ∀ w, (isAgg 94).run Tryz.prog w = .ok true w) (zE : ∀ w, (Go.sizeOf 94).run Tryz.prog w = .ok k w) (hn : n <= 1000000) (cap : Nat)
  (gf : Nat) (eg : ∀ args w, (callFunc gf args).run Tryz.prog w = .ok (.enter gf args) w) (cf : α -> α -> Int) (hC : CmpOk gf enc k cf w0 blk off n) (ho : Srt.Ord (ltC cf))
  (P X Y Q : List α) (a m b : Nat) (ih : SymOk gf enc k cf w0 blk off n cap (X.length + Y.length)) (hl : (P ++ (X ++ (Y ++ Q))).length = n) (ha : P.length = a) (hm : a + X.length = m) (hb : m + Y.length = b) (hx2 : 2 <= X.length) (hy2 : 2 <= Y.length)
  (hX : Srt.Sorted (ltC cf) X) (hY : Srt.Sorted (ltC cf) Y) (hcase : (a + b) / 2 < m) (W : World) (hs : SL enc k w0 blk off (P ++ (X ++ (Y ++ Q))) W) :
  Calls Tryz.prog 204 #[.slice (some ⟨blk, off, none⟩) n cap, .int .i64 a, .int .i64 m, .int .i64 b, .func (.func gf) #[] #[]] W fun e w' => e = .returned (.tuple #[]) /\ ∃ Z, Srt.St (ltC cf) Z (X ++ Y) /\ SL enc k w0 blk off (P ++ (Z ++ Q)) w' := by
 have mixed : Tryz.prog.follows .mixedOrders = true := by kernel_rfl
 have HROT := Lib.hid (@rotate_any α _ enc k w0 blk off n g aE zE hn cap (.func (.func gf) #[] #[]))
 have HG := Lib.hid g
 have HO := Lib.hid ho
 have HCC := Lib.hid hC
 have HX := Lib.hid hX
 have HY := Lib.hid hY
 have HIH := Lib.hid ih
 have HA := Lib.hid (And.intro ha (And.intro hm (And.intro hb (And.intro hx2 hy2))))
 obtain ⟨L, hL⟩ : ∃ L, P ++ (X ++ (Y ++ Q)) = L := ⟨_, rfl⟩
 rw [hL] at hl hs
 have HL := Lib.hid (And.intro hL hl)
 have hbn : (b : Int) <= n := by rw [<- hl, <- hL]; simp only [List.length_append]; omega
 have hmb : (m : Int) < b := by omega
 have ham : (a : Int) < m := by omega
 have hnn : (n : Int) <= 1000000 := by omega
 obtain ⟨xl, hxl⟩ : ∃ xl, xl = X.length := ⟨_, rfl⟩
 obtain ⟨yl, hyl⟩ : ∃ yl, yl = Y.length := ⟨_, rfl⟩
 have w1 : IntKind.i64.wrap ((m : Int) - a) = (xl : Int) := by rw [IntWalk.i64_in _ (by omega)]; omega
 have w1' : IntKind.i64.wrap ((b : Int) - m) = (yl : Int) := by rw [IntWalk.i64_in _ (by omega)]; omega
 have x1 : xl ≠ 1 := by omega
 have x2 : ((xl : Int) == 1) = false := by simp; omega
 have x3 : ((xl : Int) = 1) = False := by simp; omega
 have y1 : yl ≠ 1 := by omega
 have y2 : ((yl : Int) == 1) = false := by simp; omega
 have y3 : ((yl : Int) = 1) = False := by simp; omega
 obtain ⟨sm, mid, hsm, hmid, wA, wB, wC⟩ := mid_num (i := a) (j := b) (by omega)
 obtain ⟨nn, hnn'⟩ : ∃ nn, nn = mid + m := ⟨_, rfl⟩
 obtain ⟨pp, hpp⟩ : ∃ pp, pp = mid + m - 1 := ⟨_, rfl⟩
 have w2 : IntKind.i64.wrap ((mid : Int) + m) = (nn : Int) := by rw [IntWalk.i64_in _ (by omega)]; omega
 have w3 : IntKind.i64.wrap ((nn : Int) - 1) = (pp : Int) := by rw [IntWalk.i64_in _ (by omega)]; omega
 have HM : Hid (mid = (a + b) / 2 /\ nn = mid + m /\ pp + 1 = mid + m /\ a < mid /\ mid < b) := ⟨hmid, hnn', by omega, by omega, by omega⟩
 have GLX : Hid (∀ t, t < X.length -> ∃ h : a + t < L.length, L[a + t]'h = X[t]!) := by
  intro t ht
  have hlt : a + t < L.length := by rw [hl]; omega
  refine ⟨hlt, ?_⟩
  simp only [<- hL]
  rw [List.getElem_append_right (by omega), List.getElem_append_left (by omega)]
  simp only [getElem!_pos X t ht]
  congr 1; omega
 have GLY : Hid (∀ t, t < Y.length -> ∃ h : m + t < L.length, L[m + t]'h = Y[t]!) := by
  intro t ht
  have hlt : m + t < L.length := by rw [hl]; omega
  refine ⟨hlt, ?_⟩
  have h0 : L = (P ++ X) ++ (Y ++ Q) := by rw [<- hL]; simp
  simp only [h0]
  rw [List.getElem_append_right (by simp; omega), List.getElem_append_left (by simp; omega)]
  simp only [getElem!_pos Y t ht]
  congr 1; simp; omega
 haveI : Nonempty (InSL enc k w0 blk off L) := ⟨⟨_, hs⟩⟩
 clear g hn ho hC hX hY ih ha hm hb hx2 hy2 hl hL hxl hyl hsm hmid hnn' hpp
 obtain ⟨hh, hhh⟩ : ∃ hh, hh = mid - a := ⟨_, rfl⟩
 have hc : mid < m := by have := HM.out; omega
 have hcz : (mid : Int) < m := by omega
 obtain ⟨st0, hst⟩ : ∃ st0, st0 = mid + m - b := ⟨_, rfl⟩
 obtain ⟨r0, hr0⟩ : ∃ r0, mid = r0 := ⟨_, rfl⟩
 have w4 : IntKind.i64.wrap ((nn : Int) - b) = (st0 : Int) := by have := HM.out; have := HA.out; rw [IntWalk.i64_in _ (by omega)]; omega
 have HB : Hid (a <= st0 /\ st0 <= r0 /\ r0 - a <= X.length /\ r0 - a <= hh /\ hh <= st0 - a + Y.length /\ (st0 - a = 0 \/ hh = st0 - a + Y.length) /\ (r0 - a = X.length \/ r0 - a = hh) /\ hh + a = mid /\ r0 <= n) := by have := HM.out; have := HA.out; exact ⟨by omega, by omega, by omega, by omega, by omega, by omega, by omega, by omega, by omega⟩
 have HR0 := Lib.hid hr0.symm
 clear hc hst hhh hr0 hcase
 go_enter Tryz.func204, Tryz.ntmps204
 go_wp2
 go_loopw [20, 21] (fun vi vj wr => ∃ i j : Nat, vi = .int .i64 i /\ vj = .int .i64 j /\ Hid (st0 <= i /\ i <= j /\ j <= r0 /\ (∀ c, st0 - a <= c -> c < i - a -> ltC cf Y[hh - 1 - c]! X[c]! = false) /\ (∀ c, j - a <= c -> c < r0 - a -> ltC cf Y[hh - 1 - c]! X[c]! = true)) /\ SL enc k w0 blk off L wr) (fun vi vj _ => (intOf vj).toNat - (intOf vi).toNat)
 case atStart => exact ⟨st0, r0, by first | rfl | rw [<- HS0.out], by first | rfl | rw [<- HR0.out], Lib.hid ⟨Nat.le_refl _, by have := HB.out; omega, Nat.le_refl _, fun c h1 h2 => by omega, fun c h1 h2 => by omega⟩, hs⟩
 case round =>
  obtain ⟨i, j, rfl, rfl, HI, hs1⟩ := hrel
  by_cases hlt : i < j
  ·have hltz : (i : Int) < (j : Int) := by omega
   obtain ⟨s, c, hs', hc', vA, vB, vC⟩ := mid_num (i := i) (j := j) (by have := HI.out; have := HB.out; omega)
   obtain ⟨pc, hpc⟩ : ∃ pc, pc = pp - c := ⟨_, rfl⟩
   have HH : Hid (c = (i + j) / 2 /\ i < j /\ a <= c /\ c - a < X.length /\ pc = m + (hh - 1 - (c - a)) /\ hh - 1 - (c - a) < Y.length /\ c < r0 /\ c - a < hh /\ st0 <= c) := by
    have := HI.out; have := HA.out; have := HB.out; have := HM.out
    exact ⟨hc', hlt, by omega, by omega, by omega, by omega, by omega, by omega, by omega⟩
   have v1 : IntKind.i64.wrap ((pp : Int) - c) = (pc : Int) := by have := HH.out; have := HM.out; have := HB.out; rw [IntWalk.i64_in _ (by omega)]; omega
   have v2 : IntKind.i64.wrap ((c : Int) + 1) = ((c + 1 : Nat) : Int) := by have := HH.out; have := HA.out; have := HB.out; rw [IntWalk.i64_in _ (by omega)]; omega
   obtain ⟨x, hx⟩ : ∃ x, X[c - a]! = x := ⟨_, rfl⟩
   obtain ⟨y, hy⟩ : ∃ y, Y[hh - 1 - (c - a)]! = y := ⟨_, rfl⟩
   have bc : (c : Int) < n := by have := HH.out; have := HA.out; omega
   have bp : (pc : Int) < n := by have := HH.out; have := HA.out; omega
   have lx : ∀ p : InSL enc k w0 blk off L, Sem.run Tryz.prog (loadCellsFrom ⟨blk, off + c * k, none⟩ 0 k #[]) p.W = .ok (enc x).toArray p.W := fun p => by
    have h1 := GLX.out (c - a) HH.out.2.2.2.1
    rw [hx] at h1
    refine load_at HG.out HL.out.2 _ ?_ p
    have h2 := HH.out.2.2.1
    obtain ⟨h3, h4⟩ := h1
    have e : a + (c - a) = c := by omega
    simp only [e] at h3 h4
    exact ⟨h3, h4⟩
   have ly : ∀ p : InSL enc k w0 blk off L, Sem.run Tryz.prog (loadCellsFrom ⟨blk, off + pc * k, none⟩ 0 k #[]) p.W = .ok (enc y).toArray p.W := fun p => by
    have h1 := GLY.out (hh - 1 - (c - a)) HH.out.2.2.2.2.2.1
    rw [hy] at h1
    refine load_at HG.out HL.out.2 _ ?_ p
    rw [HH.out.2.2.2.2.1]; exact h1
   have HCQ := Lib.hid (fun p => HCC.out.quiet HL.out.2 y x p)
   have HYY := Lib.hid (And.intro hx hy)
   clear hs' hc' hlt hx hy hpc
   by_cases hlv : cf y x < 0
   ·go_wp2_with fail
    refine wp_region_sl mixed (by kernel_rfl) hs1 ?_
    repeat (quiet_step (first | (go_at_fn gf; exact HCQ.out _)))
    refine wpQuiet_nil ?_
    rintro wq ⟨p, rfl⟩
    have HLV := Lib.hid hlv
    go_wp2
    refine ⟨⟨i, c, rfl, rfl, ?_, p.h⟩, ?_⟩
    ·obtain ⟨a1, a2, a3, a4, a5, a6, a7, a8, a9⟩ := HH.out
     obtain ⟨b1, b2, b3, b4, b5⟩ := HI.out
     refine ⟨b1, by omega, by omega, b4, fun t ht ht2 => ?_⟩
     have e : ltC cf Y[hh - 1 - (c - a)]! X[c - a]! = true := by rw [HYY.out.1, HYY.out.2]; exact decide_eq_true HLV.out
     rcases Nat.lt_or_ge (c - a) t with hj | hj
     ·have hxl := HB.out
      exact HO.out.lt_of (HO.out.lt_of' e (Srt.sorted_get HY.out (show hh - 1 - t < hh - 1 - (c - a) by omega) a6)) (Srt.sorted_get HX.out hj (by omega))
     ·rw [show t = c - a by omega]; exact e
    ·have := HH.out; simp only [intOf, Int.toNat_natCast]; omega
   ·go_wp2_with fail
    refine wp_region_sl mixed (by kernel_rfl) hs1 ?_
    repeat (quiet_step (first | (go_at_fn gf; exact HCQ.out _)))
    refine wpQuiet_nil ?_
    rintro wq ⟨p, rfl⟩
    have HLV := Lib.hid hlv
    have hd : decide (cf y x < 0) = false := decide_eq_false (by omega)
    go_wp2
    ·refine ⟨⟨c + 1, j, rfl, rfl, ?_, p.h⟩, ?_⟩
     ·obtain ⟨a1, a2, a3, a4, a5, a6, a7, a8, a9⟩ := HH.out
      obtain ⟨b1, b2, b3, b4, b5⟩ := HI.out
      refine ⟨by omega, by omega, b3, fun t ht ht2 => ?_, b5⟩
      have e : ltC cf Y[hh - 1 - (c - a)]! X[c - a]! = false := by rw [HYY.out.1, HYY.out.2]; exact decide_eq_false (Int.not_lt.2 HLV.out)
      rcases Nat.lt_or_ge t (c - a) with hj | hj
      ·have hyl := HB.out
       exact HO.out.trans (HO.out.trans (Srt.sorted_get HY.out (show hh - 1 - (c - a) < hh - 1 - t by omega) (by omega)) e) (Srt.sorted_get HX.out hj a4)
      ·rw [show t = c - a by omega]; exact e
     ·have := HH.out; simp only [intOf, Int.toNat_natCast]; omega
    ·rename_i hq; rw [hd] at hq; exact absurd hq (by decide)
  ·have hltz : ¬ ((i : Int) < (j : Int)) := by omega
   obtain ⟨s, hsi⟩ : ∃ s, s = i := ⟨_, rfl⟩
   rw [<- hsi] at hltz
   obtain ⟨u, hu⟩ : ∃ u, u = s - a := ⟨_, rfl⟩
   obtain ⟨en, hen⟩ : ∃ en, en = mid + m - s := ⟨_, rfl⟩
   have hcut := Srt.sym_cut HO.out HX.out HY.out (h := hh) (u := u) (lo := st0 - a) (hi := r0 - a) (by have := HI.out; omega) (by have := HI.out; omega) (by have := HB.out; omega) (by have := HB.out; omega) (by have := HB.out; omega) (by have := HB.out; omega) (by have := HB.out; omega) (by rw [hu, hsi]; exact HI.out.2.2.2.1) (by rw [hu, hsi]; have h := HI.out.2.2.2.2; have h2 := HI.out; rw [show j = i by omega] at h; exact h)
   obtain ⟨X1, hX1⟩ : ∃ X1, X.take u = X1 := ⟨_, rfl⟩
   obtain ⟨X2, hX2⟩ : ∃ X2, X.drop u = X2 := ⟨_, rfl⟩
   obtain ⟨Y1, hY1⟩ : ∃ Y1, Y.take (hh - u) = Y1 := ⟨_, rfl⟩
   obtain ⟨Y2, hY2⟩ : ∃ Y2, Y.drop (hh - u) = Y2 := ⟨_, rfl⟩
   rw [hX1, hX2, hY1, hY2] at hcut
   have HE : Hid (X = X1 ++ X2 /\ Y = Y1 ++ Y2 /\ (∀ a ∈ X1, ∀ d ∈ Y2, ltC cf d a = false) /\ (∀ b ∈ Y1, ∀ a ∈ X2, ltC cf b a = true)) := ⟨by rw [<- hX1, <- hX2, List.take_append_drop], by rw [<- hY1, <- hY2, List.take_append_drop], hcut.1, hcut.2⟩
   have HN : Hid (a + X1.length = s /\ s + X2.length = m /\ m + Y1.length = en /\ en + Y2.length = b /\ s + Y1.length = mid /\ mid + X2.length = en /\ X1.length + X2.length = X.length /\ Y1.length + Y2.length = Y.length) := by
    have := HI.out; have := HB.out; have := HM.out; have := HA.out
    rw [<- hX1, <- hX2, <- hY1, <- hY2, List.length_take, List.length_drop, List.length_take, List.length_drop]
    exact ⟨by omega, by omega, by omega, by omega, by omega, by omega, by omega, by omega⟩
   have HT : Hid (Srt.Sorted (ltC cf) X1 /\ Srt.Sorted (ltC cf) X2 /\ Srt.Sorted (ltC cf) Y1 /\ Srt.Sorted (ltC cf) Y2) := by
    refine ⟨?_, ?_, ?_, ?_⟩
    ·rw [<- hX1]; exact HX.out.sub (List.take_sublist _ _)
    ·rw [<- hX2]; exact HX.out.sub (List.drop_sublist _ _)
    ·rw [<- hY1]; exact HY.out.sub (List.take_sublist _ _)
    ·rw [<- hY2]; exact HY.out.sub (List.drop_sublist _ _)
   have v3 : IntKind.i64.wrap ((nn : Int) - s) = (en : Int) := by have := HN.out; have := HM.out; rw [IntWalk.i64_in _ (by omega)]; omega
   have HS := Lib.hid hs1
   clear hs hs1 hlt hu hen hcut hX1 hX2 hY1 hY2
   subst hsi
   by_cases c1 : s < m
   ·have d1 : (s : Int) < m := by omega
    have d5 : (mid : Int) < en := by have := HN.out; omega
    by_cases c2 : m < en
    ·have d2 : (m : Int) < en := by omega
     have d4 : (s : Int) < mid := by have := HN.out; omega
     by_cases c3 : a < s
     ·have d3 : (a : Int) < s := by omega
      by_cases c4 : en < b
      ·have d6 : (en : Int) < b := by omega
       go_wp2_with fail
       refine (HROT.out (P ++ X1) X2 Y1 (Y2 ++ Q) s m en (by have := HN.out; have h := HL.out; rw [<- h.2, <- h.1, HE.out.1, HE.out.2.1]; simp [List.length_append]) (by have := HN.out; have := HA.out; simp only [List.length_append]; omega) (by have := HN.out; have := HA.out; simp only [List.length_append]; omega) (by have := HN.out; omega) (by have := HN.out; omega) (by have := HN.out; omega) _ (by have h := HS.out; rw [<- HL.out.1, HE.out.1, HE.out.2.1] at h; simpa using h)).mono ?_
       rintro e wa ⟨rfl, hs2⟩
       replace hs2 : Hid (SL enc k w0 blk off (P ++ (X1 ++ (Y1 ++ (X2 ++ (Y2 ++ Q))))) wa) := by show SL _ _ _ _ _ _ _; simpa using hs2
       go_wp2_with fail
       refine (HIH.out P X1 Y1 (X2 ++ (Y2 ++ Q)) a s mid _ (by have := HN.out; have := HA.out; have := HM.out; omega) (by have h := HL.out; rw [<- h.2, <- h.1, HE.out.1, HE.out.2.1]; simp only [List.length_append]; omega) HA.out.1 (by have := HN.out; omega) (by have := HN.out; omega) (by have := HN.out; omega) (by have := HN.out; omega) HT.out.1 HT.out.2.2.1 hs2.out).mono ?_
       rintro e wb ⟨rfl, Z1, hz1, hs3⟩
       replace hs3 := Lib.hid hs3
       have HZ1 := Lib.hid hz1
       clear hz1
       have HLZ : Hid (Z1.length = X1.length + Y1.length) := by have := HZ1.out.len HO.out; rw [List.length_append] at this; exact this
       go_wp2_with fail
       refine (HIH.out (P ++ Z1) X2 Y2 Q mid en b _ (by have := HN.out; have := HA.out; have := HM.out; omega) (by have h := HL.out; have := HLZ.out; rw [<- h.2, <- h.1, HE.out.1, HE.out.2.1]; simp only [List.length_append]; omega) (by have := HN.out; have := HLZ.out; have := HA.out; simp only [List.length_append]; omega) (by have := HN.out; omega) (by have := HN.out; omega) (by have := HN.out; omega) (by have := HN.out; omega) HT.out.2.1 HT.out.2.2.2 (by have h := hs3.out; simpa using h)).mono ?_
       rintro e wc ⟨rfl, Z2, hz2, hs4⟩
       replace hs4 := Lib.hid hs4
       have HZ2 := Lib.hid hz2
       clear hz2
       go_wp2_with fail
       go_end0
       refine ⟨rfl, Z1 ++ Z2, ?_, by have h := hs4.out; simpa using h⟩
       have hx := HX.out
       have hy := HY.out
       rw [HE.out.1] at hx ⊢
       rw [HE.out.2.1] at hy ⊢
       exact Srt.St.split HO.out hx hy HE.out.2.2.1 HE.out.2.2.2 HZ1.out HZ2.out
      ·have d6 : ¬ ((en : Int) < b) := by omega
       go_wp2_with fail
       refine (HROT.out (P ++ X1) X2 Y1 (Y2 ++ Q) s m en (by have := HN.out; have h := HL.out; rw [<- h.2, <- h.1, HE.out.1, HE.out.2.1]; simp [List.length_append]) (by have := HN.out; have := HA.out; simp only [List.length_append]; omega) (by have := HN.out; have := HA.out; simp only [List.length_append]; omega) (by have := HN.out; omega) (by have := HN.out; omega) (by have := HN.out; omega) _ (by have h := HS.out; rw [<- HL.out.1, HE.out.1, HE.out.2.1] at h; simpa using h)).mono ?_
       rintro e wa ⟨rfl, hs2⟩
       replace hs2 : Hid (SL enc k w0 blk off (P ++ (X1 ++ (Y1 ++ (X2 ++ (Y2 ++ Q))))) wa) := by show SL _ _ _ _ _ _ _; simpa using hs2
       go_wp2_with fail
       refine (HIH.out P X1 Y1 (X2 ++ (Y2 ++ Q)) a s mid _ (by have := HN.out; have := HA.out; have := HM.out; omega) (by have h := HL.out; rw [<- h.2, <- h.1, HE.out.1, HE.out.2.1]; simp only [List.length_append]; omega) HA.out.1 (by have := HN.out; omega) (by have := HN.out; omega) (by have := HN.out; omega) (by have := HN.out; omega) HT.out.1 HT.out.2.2.1 hs2.out).mono ?_
       rintro e wb ⟨rfl, Z1, hz1, hs3⟩
       replace hs3 := Lib.hid hs3
       have HZ1 := Lib.hid hz1
       clear hz1
       have HLZ : Hid (Z1.length = X1.length + Y1.length) := by have := HZ1.out.len HO.out; rw [List.length_append] at this; exact this
       have HZ2 : Hid (Srt.St (ltC cf) (X2 ++ Y2) (X2 ++ Y2)) := by
        have hz : X2 = [] \/ Y2 = [] := by rcases X2 with _ | ⟨_, _⟩ <;> rcases Y2 with _ | ⟨_, _⟩ <;> first | exact .inl rfl | exact .inr rfl | (exfalso; have := HN.out; simp only [List.length_cons] at this; omega)
        have h1 := HT.out
        rcases hz with hz | hz <;> rw [hz] at h1 ⊢
        ·exact Srt.St.self (by simpa using h1.2.2.2)
        ·exact Srt.St.self (by simpa using h1.2.1)
       go_wp2_with fail
       go_end0
       refine ⟨rfl, Z1 ++ (X2 ++ Y2), ?_, by have h := hs3.out; simpa using h⟩
       have hx := HX.out
       have hy := HY.out
       rw [HE.out.1] at hx ⊢
       rw [HE.out.2.1] at hy ⊢
       exact Srt.St.split HO.out hx hy HE.out.2.2.1 HE.out.2.2.2 HZ1.out HZ2.out
     ·have d3 : ¬ ((a : Int) < s) := by omega
      by_cases c4 : en < b
      ·have d6 : (en : Int) < b := by omega
       go_wp2_with fail
       refine (HROT.out (P ++ X1) X2 Y1 (Y2 ++ Q) s m en (by have := HN.out; have h := HL.out; rw [<- h.2, <- h.1, HE.out.1, HE.out.2.1]; simp [List.length_append]) (by have := HN.out; have := HA.out; simp only [List.length_append]; omega) (by have := HN.out; have := HA.out; simp only [List.length_append]; omega) (by have := HN.out; omega) (by have := HN.out; omega) (by have := HN.out; omega) _ (by have h := HS.out; rw [<- HL.out.1, HE.out.1, HE.out.2.1] at h; simpa using h)).mono ?_
       rintro e wa ⟨rfl, hs2⟩
       replace hs2 : Hid (SL enc k w0 blk off (P ++ (X1 ++ (Y1 ++ (X2 ++ (Y2 ++ Q))))) wa) := by show SL _ _ _ _ _ _ _; simpa using hs2
       obtain ⟨Z1, HZ1, hs3⟩ : ∃ Z1, Hid (Srt.St (ltC cf) Z1 (X1 ++ Y1)) /\ Hid (SL enc k w0 blk off (P ++ (Z1 ++ (X2 ++ (Y2 ++ Q)))) wa) := by
        refine ⟨X1 ++ Y1, ?_, ?_⟩
        ·have hz : X1 = [] \/ Y1 = [] := by rcases X1 with _ | ⟨_, _⟩ <;> rcases Y1 with _ | ⟨_, _⟩ <;> first | exact .inl rfl | exact .inr rfl | (exfalso; have := HN.out; simp only [List.length_cons] at this; omega)
         have h1 := HT.out
         rcases hz with hz | hz <;> rw [hz] at h1 ⊢
         ·exact Srt.St.self (by simpa using h1.2.2.1)
         ·exact Srt.St.self (by simpa using h1.1)
        ·have h := hs2.out; show SL _ _ _ _ _ _ _; simpa using h
       have HLZ : Hid (Z1.length = X1.length + Y1.length) := by have := HZ1.out.len HO.out; rw [List.length_append] at this; exact this
       go_wp2_with fail
       refine (HIH.out (P ++ Z1) X2 Y2 Q mid en b _ (by have := HN.out; have := HA.out; have := HM.out; omega) (by have h := HL.out; have := HLZ.out; rw [<- h.2, <- h.1, HE.out.1, HE.out.2.1]; simp only [List.length_append]; omega) (by have := HN.out; have := HLZ.out; have := HA.out; simp only [List.length_append]; omega) (by have := HN.out; omega) (by have := HN.out; omega) (by have := HN.out; omega) (by have := HN.out; omega) HT.out.2.1 HT.out.2.2.2 (by have h := hs3.out; simpa using h)).mono ?_
       rintro e wc ⟨rfl, Z2, hz2, hs4⟩
       replace hs4 := Lib.hid hs4
       have HZ2 := Lib.hid hz2
       clear hz2
       go_wp2_with fail
       go_end0
       refine ⟨rfl, Z1 ++ Z2, ?_, by have h := hs4.out; simpa using h⟩
       have hx := HX.out
       have hy := HY.out
       rw [HE.out.1] at hx ⊢
       rw [HE.out.2.1] at hy ⊢
       exact Srt.St.split HO.out hx hy HE.out.2.2.1 HE.out.2.2.2 HZ1.out HZ2.out
      ·have d6 : ¬ ((en : Int) < b) := by omega
       go_wp2_with fail
       refine (HROT.out (P ++ X1) X2 Y1 (Y2 ++ Q) s m en (by have := HN.out; have h := HL.out; rw [<- h.2, <- h.1, HE.out.1, HE.out.2.1]; simp [List.length_append]) (by have := HN.out; have := HA.out; simp only [List.length_append]; omega) (by have := HN.out; have := HA.out; simp only [List.length_append]; omega) (by have := HN.out; omega) (by have := HN.out; omega) (by have := HN.out; omega) _ (by have h := HS.out; rw [<- HL.out.1, HE.out.1, HE.out.2.1] at h; simpa using h)).mono ?_
       rintro e wa ⟨rfl, hs2⟩
       replace hs2 : Hid (SL enc k w0 blk off (P ++ (X1 ++ (Y1 ++ (X2 ++ (Y2 ++ Q))))) wa) := by show SL _ _ _ _ _ _ _; simpa using hs2
       obtain ⟨Z1, HZ1, hs3⟩ : ∃ Z1, Hid (Srt.St (ltC cf) Z1 (X1 ++ Y1)) /\ Hid (SL enc k w0 blk off (P ++ (Z1 ++ (X2 ++ (Y2 ++ Q)))) wa) := by
        refine ⟨X1 ++ Y1, ?_, ?_⟩
        ·have hz : X1 = [] \/ Y1 = [] := by rcases X1 with _ | ⟨_, _⟩ <;> rcases Y1 with _ | ⟨_, _⟩ <;> first | exact .inl rfl | exact .inr rfl | (exfalso; have := HN.out; simp only [List.length_cons] at this; omega)
         have h1 := HT.out
         rcases hz with hz | hz <;> rw [hz] at h1 ⊢
         ·exact Srt.St.self (by simpa using h1.2.2.1)
         ·exact Srt.St.self (by simpa using h1.1)
        ·have h := hs2.out; show SL _ _ _ _ _ _ _; simpa using h
       have HLZ : Hid (Z1.length = X1.length + Y1.length) := by have := HZ1.out.len HO.out; rw [List.length_append] at this; exact this
       have HZ2 : Hid (Srt.St (ltC cf) (X2 ++ Y2) (X2 ++ Y2)) := by
        have hz : X2 = [] \/ Y2 = [] := by rcases X2 with _ | ⟨_, _⟩ <;> rcases Y2 with _ | ⟨_, _⟩ <;> first | exact .inl rfl | exact .inr rfl | (exfalso; have := HN.out; simp only [List.length_cons] at this; omega)
        have h1 := HT.out
        rcases hz with hz | hz <;> rw [hz] at h1 ⊢
        ·exact Srt.St.self (by simpa using h1.2.2.2)
        ·exact Srt.St.self (by simpa using h1.2.1)
       go_wp2_with fail
       go_end0
       refine ⟨rfl, Z1 ++ (X2 ++ Y2), ?_, by have h := hs3.out; simpa using h⟩
       have hx := HX.out
       have hy := HY.out
       rw [HE.out.1] at hx ⊢
       rw [HE.out.2.1] at hy ⊢
       exact Srt.St.split HO.out hx hy HE.out.2.2.1 HE.out.2.2.2 HZ1.out HZ2.out
    ·have d2 : ¬ ((m : Int) < en) := by omega
     have d4 : ¬ ((s : Int) < mid) := by have := HN.out; omega
     have d6 : (en : Int) < b := by have := HN.out; have := HA.out; omega
     have d3 : (a : Int) < s := by have := HN.out; have := HM.out; omega
     have hs2 : Hid (SL enc k w0 blk off (P ++ (X1 ++ (Y1 ++ (X2 ++ (Y2 ++ Q))))) wr) := by
      have h := HS.out
      have hz : X2 = [] \/ Y1 = [] := by rcases X2 with _ | ⟨_, _⟩ <;> rcases Y1 with _ | ⟨_, _⟩ <;> first | exact .inl rfl | exact .inr rfl | (exfalso; have := HN.out; simp only [List.length_cons] at this; omega)
      rw [<- HL.out.1, HE.out.1, HE.out.2.1] at h
      show SL _ _ _ _ _ _ _
      rcases hz with hz | hz <;> rw [hz] at h ⊢ <;> simpa using h
     obtain ⟨Z1, HZ1, hs3⟩ : ∃ Z1, Hid (Srt.St (ltC cf) Z1 (X1 ++ Y1)) /\ Hid (SL enc k w0 blk off (P ++ (Z1 ++ (X2 ++ (Y2 ++ Q)))) wr) := by
      refine ⟨X1 ++ Y1, ?_, ?_⟩
      ·have hz : X1 = [] \/ Y1 = [] := by rcases X1 with _ | ⟨_, _⟩ <;> rcases Y1 with _ | ⟨_, _⟩ <;> first | exact .inl rfl | exact .inr rfl | (exfalso; have := HN.out; simp only [List.length_cons] at this; omega)
       have h1 := HT.out
       rcases hz with hz | hz <;> rw [hz] at h1 ⊢
       ·exact Srt.St.self (by simpa using h1.2.2.1)
       ·exact Srt.St.self (by simpa using h1.1)
      ·have h := hs2.out; show SL _ _ _ _ _ _ _; simpa using h
     have HLZ : Hid (Z1.length = X1.length + Y1.length) := by have := HZ1.out.len HO.out; rw [List.length_append] at this; exact this
     go_wp2_with fail
     refine (HIH.out (P ++ Z1) X2 Y2 Q mid en b _ (by have := HN.out; have := HA.out; have := HM.out; omega) (by have h := HL.out; have := HLZ.out; rw [<- h.2, <- h.1, HE.out.1, HE.out.2.1]; simp only [List.length_append]; omega) (by have := HN.out; have := HLZ.out; have := HA.out; simp only [List.length_append]; omega) (by have := HN.out; omega) (by have := HN.out; omega) (by have := HN.out; omega) (by have := HN.out; omega) HT.out.2.1 HT.out.2.2.2 (by have h := hs3.out; simpa using h)).mono ?_
     rintro e wc ⟨rfl, Z2, hz2, hs4⟩
     replace hs4 := Lib.hid hs4
     have HZ2 := Lib.hid hz2
     clear hz2
     go_wp2_with fail
     go_end0
     refine ⟨rfl, Z1 ++ Z2, ?_, by have h := hs4.out; simpa using h⟩
     have hx := HX.out
     have hy := HY.out
     rw [HE.out.1] at hx ⊢
     rw [HE.out.2.1] at hy ⊢
     exact Srt.St.split HO.out hx hy HE.out.2.2.1 HE.out.2.2.2 HZ1.out HZ2.out
   ·have d1 : ¬ ((s : Int) < m) := by omega
    exfalso; have := HN.out; omega
end
end Fl
end Go.Proofs.YtneghhbclefmoaaGreat
end
section
namespace Go.Proofs.YtneghhbclefmoaaGreat
namespace Fl
open Go.RowKit Go.Shelf Go.Sort
set_option maxRecDepth 100000
section
variable {α : Type} [Inhabited α] {enc : α -> List Value} {k : Nat} {w0 : World} {blk off : Nat}
set_option maxHeartbeats 20000000 in
theorem symMerge_Fb {n : Nat} (g : SG enc k w0 blk off n) (aE : ∀ w, (isAgg 94).run Tryz.prog w = .ok true w) (zE : ∀ w, (Go.sizeOf 94).run Tryz.prog w = .ok k w) (hn : n <= 1000000) (cap : Nat)
  (gf : Nat) (eg : ∀ args w, (callFunc gf args).run Tryz.prog w = .ok (.enter gf args) w) (cf : α -> α -> Int) (hC : CmpOk gf enc k cf w0 blk off n) (ho : Srt.Ord (ltC cf))
  (P X Y Q : List α) (a m b : Nat) (ih : SymOk gf enc k cf w0 blk off n cap (X.length + Y.length)) (hl : (P ++ (X ++ (Y ++ Q))).length = n) (ha : P.length = a) (hm : a + X.length = m) (hb : m + Y.length = b) (hx2 : 2 <= X.length) (hy2 : 2 <= Y.length)
  (hX : Srt.Sorted (ltC cf) X) (hY : Srt.Sorted (ltC cf) Y) (hcase : m <= (a + b) / 2) (W : World) (hs : SL enc k w0 blk off (P ++ (X ++ (Y ++ Q))) W) :
  Calls Tryz.prog 204 #[.slice (some ⟨blk, off, none⟩) n cap, .int .i64 a, .int .i64 m, .int .i64 b, .func (.func gf) #[] #[]] W fun e w' => e = .returned (.tuple #[]) /\ ∃ Z, Srt.St (ltC cf) Z (X ++ Y) /\ SL enc k w0 blk off (P ++ (Z ++ Q)) w' := by
 have mixed : Tryz.prog.follows .mixedOrders = true := by kernel_rfl
 have HROT := Lib.hid (@rotate_any α _ enc k w0 blk off n g aE zE hn cap (.func (.func gf) #[] #[]))
 have HG := Lib.hid g
 have HO := Lib.hid ho
 have HCC := Lib.hid hC
 have HX := Lib.hid hX
 have HY := Lib.hid hY
 have HIH := Lib.hid ih
 have HA := Lib.hid (And.intro ha (And.intro hm (And.intro hb (And.intro hx2 hy2))))
 obtain ⟨L, hL⟩ : ∃ L, P ++ (X ++ (Y ++ Q)) = L := ⟨_, rfl⟩
 rw [hL] at hl hs
 have HL := Lib.hid (And.intro hL hl)
 have hbn : (b : Int) <= n := by rw [<- hl, <- hL]; simp only [List.length_append]; omega
 have hmb : (m : Int) < b := by omega
 have ham : (a : Int) < m := by omega
 have hnn : (n : Int) <= 1000000 := by omega
 obtain ⟨xl, hxl⟩ : ∃ xl, xl = X.length := ⟨_, rfl⟩
 obtain ⟨yl, hyl⟩ : ∃ yl, yl = Y.length := ⟨_, rfl⟩
 have w1 : IntKind.i64.wrap ((m : Int) - a) = (xl : Int) := by rw [IntWalk.i64_in _ (by omega)]; omega
 have w1' : IntKind.i64.wrap ((b : Int) - m) = (yl : Int) := by rw [IntWalk.i64_in _ (by omega)]; omega
 have x1 : xl ≠ 1 := by omega
 have x2 : ((xl : Int) == 1) = false := by simp; omega
 have x3 : ((xl : Int) = 1) = False := by simp; omega
 have y1 : yl ≠ 1 := by omega
 have y2 : ((yl : Int) == 1) = false := by simp; omega
 have y3 : ((yl : Int) = 1) = False := by simp; omega
 obtain ⟨sm, mid, hsm, hmid, wA, wB, wC⟩ := mid_num (i := a) (j := b) (by omega)
 obtain ⟨nn, hnn'⟩ : ∃ nn, nn = mid + m := ⟨_, rfl⟩
 obtain ⟨pp, hpp⟩ : ∃ pp, pp = mid + m - 1 := ⟨_, rfl⟩
 have w2 : IntKind.i64.wrap ((mid : Int) + m) = (nn : Int) := by rw [IntWalk.i64_in _ (by omega)]; omega
 have w3 : IntKind.i64.wrap ((nn : Int) - 1) = (pp : Int) := by rw [IntWalk.i64_in _ (by omega)]; omega
 have HM : Hid (mid = (a + b) / 2 /\ nn = mid + m /\ pp + 1 = mid + m /\ a < mid /\ mid < b) := ⟨hmid, hnn', by omega, by omega, by omega⟩
 have GLX : Hid (∀ t, t < X.length -> ∃ h : a + t < L.length, L[a + t]'h = X[t]!) := by
  intro t ht
  have hlt : a + t < L.length := by rw [hl]; omega
  refine ⟨hlt, ?_⟩
  simp only [<- hL]
  rw [List.getElem_append_right (by omega), List.getElem_append_left (by omega)]
  simp only [getElem!_pos X t ht]
  congr 1; omega
 have GLY : Hid (∀ t, t < Y.length -> ∃ h : m + t < L.length, L[m + t]'h = Y[t]!) := by
  intro t ht
  have hlt : m + t < L.length := by rw [hl]; omega
  refine ⟨hlt, ?_⟩
  have h0 : L = (P ++ X) ++ (Y ++ Q) := by rw [<- hL]; simp
  simp only [h0]
  rw [List.getElem_append_right (by simp; omega), List.getElem_append_left (by simp; omega)]
  simp only [getElem!_pos Y t ht]
  congr 1; simp; omega
 haveI : Nonempty (InSL enc k w0 blk off L) := ⟨⟨_, hs⟩⟩
 clear g hn ho hC hX hY ih ha hm hb hx2 hy2 hl hL hxl hyl hsm hmid hnn' hpp
 obtain ⟨hh, hhh⟩ : ∃ hh, hh = mid - a := ⟨_, rfl⟩
 have hc : m <= mid := by have := HM.out; omega
 have hcz : ¬ ((mid : Int) < m) := by omega
 obtain ⟨st0, hst⟩ : ∃ st0, a = st0 := ⟨_, rfl⟩
 obtain ⟨r0, hr0⟩ : ∃ r0, m = r0 := ⟨_, rfl⟩
 have HB : Hid (a <= st0 /\ st0 <= r0 /\ r0 - a <= X.length /\ r0 - a <= hh /\ hh <= st0 - a + Y.length /\ (st0 - a = 0 \/ hh = st0 - a + Y.length) /\ (r0 - a = X.length \/ r0 - a = hh) /\ hh + a = mid /\ r0 <= n) := by have := HM.out; have := HA.out; exact ⟨by omega, by omega, by omega, by omega, by omega, by omega, by omega, by omega, by omega⟩
 have HR0 := Lib.hid hr0.symm
 have HS0 := Lib.hid hst.symm
 clear hc hst hhh hr0 hcase
 go_enter Tryz.func204, Tryz.ntmps204
 go_wp2
 go_loopw [20, 21] (fun vi vj wr => ∃ i j : Nat, vi = .int .i64 i /\ vj = .int .i64 j /\ Hid (st0 <= i /\ i <= j /\ j <= r0 /\ (∀ c, st0 - a <= c -> c < i - a -> ltC cf Y[hh - 1 - c]! X[c]! = false) /\ (∀ c, j - a <= c -> c < r0 - a -> ltC cf Y[hh - 1 - c]! X[c]! = true)) /\ SL enc k w0 blk off L wr) (fun vi vj _ => (intOf vj).toNat - (intOf vi).toNat)
 case atStart => exact ⟨st0, r0, by first | rfl | rw [<- HS0.out], by first | rfl | rw [<- HR0.out], Lib.hid ⟨Nat.le_refl _, by have := HB.out; omega, Nat.le_refl _, fun c h1 h2 => by omega, fun c h1 h2 => by omega⟩, hs⟩
 case round =>
  obtain ⟨i, j, rfl, rfl, HI, hs1⟩ := hrel
  by_cases hlt : i < j
  ·have hltz : (i : Int) < (j : Int) := by omega
   obtain ⟨s, c, hs', hc', vA, vB, vC⟩ := mid_num (i := i) (j := j) (by have := HI.out; have := HB.out; omega)
   obtain ⟨pc, hpc⟩ : ∃ pc, pc = pp - c := ⟨_, rfl⟩
   have HH : Hid (c = (i + j) / 2 /\ i < j /\ a <= c /\ c - a < X.length /\ pc = m + (hh - 1 - (c - a)) /\ hh - 1 - (c - a) < Y.length /\ c < r0 /\ c - a < hh /\ st0 <= c) := by
    have := HI.out; have := HA.out; have := HB.out; have := HM.out
    exact ⟨hc', hlt, by omega, by omega, by omega, by omega, by omega, by omega, by omega⟩
   have v1 : IntKind.i64.wrap ((pp : Int) - c) = (pc : Int) := by have := HH.out; have := HM.out; have := HB.out; rw [IntWalk.i64_in _ (by omega)]; omega
   have v2 : IntKind.i64.wrap ((c : Int) + 1) = ((c + 1 : Nat) : Int) := by have := HH.out; have := HA.out; have := HB.out; rw [IntWalk.i64_in _ (by omega)]; omega
   obtain ⟨x, hx⟩ : ∃ x, X[c - a]! = x := ⟨_, rfl⟩
   obtain ⟨y, hy⟩ : ∃ y, Y[hh - 1 - (c - a)]! = y := ⟨_, rfl⟩
   have bc : (c : Int) < n := by have := HH.out; have := HA.out; omega
   have bp : (pc : Int) < n := by have := HH.out; have := HA.out; omega
   have lx : ∀ p : InSL enc k w0 blk off L, Sem.run Tryz.prog (loadCellsFrom ⟨blk, off + c * k, none⟩ 0 k #[]) p.W = .ok (enc x).toArray p.W := fun p => by
    have h1 := GLX.out (c - a) HH.out.2.2.2.1
    rw [hx] at h1
    refine load_at HG.out HL.out.2 _ ?_ p
    have h2 := HH.out.2.2.1
    obtain ⟨h3, h4⟩ := h1
    have e : a + (c - a) = c := by omega
    simp only [e] at h3 h4
    exact ⟨h3, h4⟩
   have ly : ∀ p : InSL enc k w0 blk off L, Sem.run Tryz.prog (loadCellsFrom ⟨blk, off + pc * k, none⟩ 0 k #[]) p.W = .ok (enc y).toArray p.W := fun p => by
    have h1 := GLY.out (hh - 1 - (c - a)) HH.out.2.2.2.2.2.1
    rw [hy] at h1
    refine load_at HG.out HL.out.2 _ ?_ p
    rw [HH.out.2.2.2.2.1]; exact h1
   have HCQ := Lib.hid (fun p => HCC.out.quiet HL.out.2 y x p)
   have HYY := Lib.hid (And.intro hx hy)
   clear hs' hc' hlt hx hy hpc
   by_cases hlv : cf y x < 0
   ·go_wp2_with fail
    refine wp_region_sl mixed (by kernel_rfl) hs1 ?_
    repeat (quiet_step (first | (go_at_fn gf; exact HCQ.out _)))
    refine wpQuiet_nil ?_
    rintro wq ⟨p, rfl⟩
    have HLV := Lib.hid hlv
    go_wp2
    refine ⟨⟨i, c, rfl, rfl, ?_, p.h⟩, ?_⟩
    ·obtain ⟨a1, a2, a3, a4, a5, a6, a7, a8, a9⟩ := HH.out
     obtain ⟨b1, b2, b3, b4, b5⟩ := HI.out
     refine ⟨b1, by omega, by omega, b4, fun t ht ht2 => ?_⟩
     have e : ltC cf Y[hh - 1 - (c - a)]! X[c - a]! = true := by rw [HYY.out.1, HYY.out.2]; exact decide_eq_true HLV.out
     rcases Nat.lt_or_ge (c - a) t with hj | hj
     ·have hxl := HB.out
      exact HO.out.lt_of (HO.out.lt_of' e (Srt.sorted_get HY.out (show hh - 1 - t < hh - 1 - (c - a) by omega) a6)) (Srt.sorted_get HX.out hj (by omega))
     ·rw [show t = c - a by omega]; exact e
    ·have := HH.out; simp only [intOf, Int.toNat_natCast]; omega
   ·go_wp2_with fail
    refine wp_region_sl mixed (by kernel_rfl) hs1 ?_
    repeat (quiet_step (first | (go_at_fn gf; exact HCQ.out _)))
    refine wpQuiet_nil ?_
    rintro wq ⟨p, rfl⟩
    have HLV := Lib.hid hlv
    have hd : decide (cf y x < 0) = false := decide_eq_false (by omega)
    go_wp2
    ·refine ⟨⟨c + 1, j, rfl, rfl, ?_, p.h⟩, ?_⟩
     ·obtain ⟨a1, a2, a3, a4, a5, a6, a7, a8, a9⟩ := HH.out
      obtain ⟨b1, b2, b3, b4, b5⟩ := HI.out
      refine ⟨by omega, by omega, b3, fun t ht ht2 => ?_, b5⟩
      have e : ltC cf Y[hh - 1 - (c - a)]! X[c - a]! = false := by rw [HYY.out.1, HYY.out.2]; exact decide_eq_false (Int.not_lt.2 HLV.out)
      rcases Nat.lt_or_ge t (c - a) with hj | hj
      ·have hyl := HB.out
       exact HO.out.trans (HO.out.trans (Srt.sorted_get HY.out (show hh - 1 - (c - a) < hh - 1 - t by omega) (by omega)) e) (Srt.sorted_get HX.out hj a4)
      ·rw [show t = c - a by omega]; exact e
     ·have := HH.out; simp only [intOf, Int.toNat_natCast]; omega
    ·rename_i hq; rw [hd] at hq; exact absurd hq (by decide)
  ·have hltz : ¬ ((i : Int) < (j : Int)) := by omega
   obtain ⟨s, hsi⟩ : ∃ s, s = i := ⟨_, rfl⟩
   rw [<- hsi] at hltz
   obtain ⟨u, hu⟩ : ∃ u, u = s - a := ⟨_, rfl⟩
   obtain ⟨en, hen⟩ : ∃ en, en = mid + m - s := ⟨_, rfl⟩
   have hcut := Srt.sym_cut HO.out HX.out HY.out (h := hh) (u := u) (lo := st0 - a) (hi := r0 - a) (by have := HI.out; omega) (by have := HI.out; omega) (by have := HB.out; omega) (by have := HB.out; omega) (by have := HB.out; omega) (by have := HB.out; omega) (by have := HB.out; omega) (by rw [hu, hsi]; exact HI.out.2.2.2.1) (by rw [hu, hsi]; have h := HI.out.2.2.2.2; have h2 := HI.out; rw [show j = i by omega] at h; exact h)
   obtain ⟨X1, hX1⟩ : ∃ X1, X.take u = X1 := ⟨_, rfl⟩
   obtain ⟨X2, hX2⟩ : ∃ X2, X.drop u = X2 := ⟨_, rfl⟩
   obtain ⟨Y1, hY1⟩ : ∃ Y1, Y.take (hh - u) = Y1 := ⟨_, rfl⟩
   obtain ⟨Y2, hY2⟩ : ∃ Y2, Y.drop (hh - u) = Y2 := ⟨_, rfl⟩
   rw [hX1, hX2, hY1, hY2] at hcut
   have HE : Hid (X = X1 ++ X2 /\ Y = Y1 ++ Y2 /\ (∀ a ∈ X1, ∀ d ∈ Y2, ltC cf d a = false) /\ (∀ b ∈ Y1, ∀ a ∈ X2, ltC cf b a = true)) := ⟨by rw [<- hX1, <- hX2, List.take_append_drop], by rw [<- hY1, <- hY2, List.take_append_drop], hcut.1, hcut.2⟩
   have HN : Hid (a + X1.length = s /\ s + X2.length = m /\ m + Y1.length = en /\ en + Y2.length = b /\ s + Y1.length = mid /\ mid + X2.length = en /\ X1.length + X2.length = X.length /\ Y1.length + Y2.length = Y.length) := by
    have := HI.out; have := HB.out; have := HM.out; have := HA.out
    rw [<- hX1, <- hX2, <- hY1, <- hY2, List.length_take, List.length_drop, List.length_take, List.length_drop]
    exact ⟨by omega, by omega, by omega, by omega, by omega, by omega, by omega, by omega⟩
   have HT : Hid (Srt.Sorted (ltC cf) X1 /\ Srt.Sorted (ltC cf) X2 /\ Srt.Sorted (ltC cf) Y1 /\ Srt.Sorted (ltC cf) Y2) := by
    refine ⟨?_, ?_, ?_, ?_⟩
    ·rw [<- hX1]; exact HX.out.sub (List.take_sublist _ _)
    ·rw [<- hX2]; exact HX.out.sub (List.drop_sublist _ _)
    ·rw [<- hY1]; exact HY.out.sub (List.take_sublist _ _)
    ·rw [<- hY2]; exact HY.out.sub (List.drop_sublist _ _)
   have v3 : IntKind.i64.wrap ((nn : Int) - s) = (en : Int) := by have := HN.out; have := HM.out; rw [IntWalk.i64_in _ (by omega)]; omega
   have HS := Lib.hid hs1
   clear hs hs1 hlt hu hen hcut hX1 hX2 hY1 hY2
   subst hsi
   by_cases c1 : s < m
   ·have d1 : (s : Int) < m := by omega
    have d5 : (mid : Int) < en := by have := HN.out; omega
    by_cases c2 : m < en
    ·have d2 : (m : Int) < en := by omega
     have d4 : (s : Int) < mid := by have := HN.out; omega
     by_cases c3 : a < s
     ·have d3 : (a : Int) < s := by omega
      by_cases c4 : en < b
      ·have d6 : (en : Int) < b := by omega
       go_wp2_with fail
       refine (HROT.out (P ++ X1) X2 Y1 (Y2 ++ Q) s m en (by have := HN.out; have h := HL.out; rw [<- h.2, <- h.1, HE.out.1, HE.out.2.1]; simp [List.length_append]) (by have := HN.out; have := HA.out; simp only [List.length_append]; omega) (by have := HN.out; have := HA.out; simp only [List.length_append]; omega) (by have := HN.out; omega) (by have := HN.out; omega) (by have := HN.out; omega) _ (by have h := HS.out; rw [<- HL.out.1, HE.out.1, HE.out.2.1] at h; simpa using h)).mono ?_
       rintro e wa ⟨rfl, hs2⟩
       replace hs2 : Hid (SL enc k w0 blk off (P ++ (X1 ++ (Y1 ++ (X2 ++ (Y2 ++ Q))))) wa) := by show SL _ _ _ _ _ _ _; simpa using hs2
       go_wp2_with fail
       refine (HIH.out P X1 Y1 (X2 ++ (Y2 ++ Q)) a s mid _ (by have := HN.out; have := HA.out; have := HM.out; omega) (by have h := HL.out; rw [<- h.2, <- h.1, HE.out.1, HE.out.2.1]; simp only [List.length_append]; omega) HA.out.1 (by have := HN.out; omega) (by have := HN.out; omega) (by have := HN.out; omega) (by have := HN.out; omega) HT.out.1 HT.out.2.2.1 hs2.out).mono ?_
       rintro e wb ⟨rfl, Z1, hz1, hs3⟩
       replace hs3 := Lib.hid hs3
       have HZ1 := Lib.hid hz1
       clear hz1
       have HLZ : Hid (Z1.length = X1.length + Y1.length) := by have := HZ1.out.len HO.out; rw [List.length_append] at this; exact this
       go_wp2_with fail
       refine (HIH.out (P ++ Z1) X2 Y2 Q mid en b _ (by have := HN.out; have := HA.out; have := HM.out; omega) (by have h := HL.out; have := HLZ.out; rw [<- h.2, <- h.1, HE.out.1, HE.out.2.1]; simp only [List.length_append]; omega) (by have := HN.out; have := HLZ.out; have := HA.out; simp only [List.length_append]; omega) (by have := HN.out; omega) (by have := HN.out; omega) (by have := HN.out; omega) (by have := HN.out; omega) HT.out.2.1 HT.out.2.2.2 (by have h := hs3.out; simpa using h)).mono ?_
       rintro e wc ⟨rfl, Z2, hz2, hs4⟩
       replace hs4 := Lib.hid hs4
       have HZ2 := Lib.hid hz2
       clear hz2
       go_wp2_with fail
       go_end0
       refine ⟨rfl, Z1 ++ Z2, ?_, by have h := hs4.out; simpa using h⟩
       have hx := HX.out
       have hy := HY.out
       rw [HE.out.1] at hx ⊢
       rw [HE.out.2.1] at hy ⊢
       exact Srt.St.split HO.out hx hy HE.out.2.2.1 HE.out.2.2.2 HZ1.out HZ2.out
      ·have d6 : ¬ ((en : Int) < b) := by omega
       go_wp2_with fail
       refine (HROT.out (P ++ X1) X2 Y1 (Y2 ++ Q) s m en (by have := HN.out; have h := HL.out; rw [<- h.2, <- h.1, HE.out.1, HE.out.2.1]; simp [List.length_append]) (by have := HN.out; have := HA.out; simp only [List.length_append]; omega) (by have := HN.out; have := HA.out; simp only [List.length_append]; omega) (by have := HN.out; omega) (by have := HN.out; omega) (by have := HN.out; omega) _ (by have h := HS.out; rw [<- HL.out.1, HE.out.1, HE.out.2.1] at h; simpa using h)).mono ?_
       rintro e wa ⟨rfl, hs2⟩
       replace hs2 : Hid (SL enc k w0 blk off (P ++ (X1 ++ (Y1 ++ (X2 ++ (Y2 ++ Q))))) wa) := by show SL _ _ _ _ _ _ _; simpa using hs2
       go_wp2_with fail
       refine (HIH.out P X1 Y1 (X2 ++ (Y2 ++ Q)) a s mid _ (by have := HN.out; have := HA.out; have := HM.out; omega) (by have h := HL.out; rw [<- h.2, <- h.1, HE.out.1, HE.out.2.1]; simp only [List.length_append]; omega) HA.out.1 (by have := HN.out; omega) (by have := HN.out; omega) (by have := HN.out; omega) (by have := HN.out; omega) HT.out.1 HT.out.2.2.1 hs2.out).mono ?_
       rintro e wb ⟨rfl, Z1, hz1, hs3⟩
       replace hs3 := Lib.hid hs3
       have HZ1 := Lib.hid hz1
       clear hz1
       have HLZ : Hid (Z1.length = X1.length + Y1.length) := by have := HZ1.out.len HO.out; rw [List.length_append] at this; exact this
       have HZ2 : Hid (Srt.St (ltC cf) (X2 ++ Y2) (X2 ++ Y2)) := by
        have hz : X2 = [] \/ Y2 = [] := by rcases X2 with _ | ⟨_, _⟩ <;> rcases Y2 with _ | ⟨_, _⟩ <;> first | exact .inl rfl | exact .inr rfl | (exfalso; have := HN.out; simp only [List.length_cons] at this; omega)
        have h1 := HT.out
        rcases hz with hz | hz <;> rw [hz] at h1 ⊢
        ·exact Srt.St.self (by simpa using h1.2.2.2)
        ·exact Srt.St.self (by simpa using h1.2.1)
       go_wp2_with fail
       go_end0
       refine ⟨rfl, Z1 ++ (X2 ++ Y2), ?_, by have h := hs3.out; simpa using h⟩
       have hx := HX.out
       have hy := HY.out
       rw [HE.out.1] at hx ⊢
       rw [HE.out.2.1] at hy ⊢
       exact Srt.St.split HO.out hx hy HE.out.2.2.1 HE.out.2.2.2 HZ1.out HZ2.out
     ·have d3 : ¬ ((a : Int) < s) := by omega
      by_cases c4 : en < b
      ·have d6 : (en : Int) < b := by omega
       go_wp2_with fail
       refine (HROT.out (P ++ X1) X2 Y1 (Y2 ++ Q) s m en (by have := HN.out; have h := HL.out; rw [<- h.2, <- h.1, HE.out.1, HE.out.2.1]; simp [List.length_append]) (by have := HN.out; have := HA.out; simp only [List.length_append]; omega) (by have := HN.out; have := HA.out; simp only [List.length_append]; omega) (by have := HN.out; omega) (by have := HN.out; omega) (by have := HN.out; omega) _ (by have h := HS.out; rw [<- HL.out.1, HE.out.1, HE.out.2.1] at h; simpa using h)).mono ?_
       rintro e wa ⟨rfl, hs2⟩
       replace hs2 : Hid (SL enc k w0 blk off (P ++ (X1 ++ (Y1 ++ (X2 ++ (Y2 ++ Q))))) wa) := by show SL _ _ _ _ _ _ _; simpa using hs2
       obtain ⟨Z1, HZ1, hs3⟩ : ∃ Z1, Hid (Srt.St (ltC cf) Z1 (X1 ++ Y1)) /\ Hid (SL enc k w0 blk off (P ++ (Z1 ++ (X2 ++ (Y2 ++ Q)))) wa) := by
        refine ⟨X1 ++ Y1, ?_, ?_⟩
        ·have hz : X1 = [] \/ Y1 = [] := by rcases X1 with _ | ⟨_, _⟩ <;> rcases Y1 with _ | ⟨_, _⟩ <;> first | exact .inl rfl | exact .inr rfl | (exfalso; have := HN.out; simp only [List.length_cons] at this; omega)
         have h1 := HT.out
         rcases hz with hz | hz <;> rw [hz] at h1 ⊢
         ·exact Srt.St.self (by simpa using h1.2.2.1)
         ·exact Srt.St.self (by simpa using h1.1)
        ·have h := hs2.out; show SL _ _ _ _ _ _ _; simpa using h
       have HLZ : Hid (Z1.length = X1.length + Y1.length) := by have := HZ1.out.len HO.out; rw [List.length_append] at this; exact this
       go_wp2_with fail
       refine (HIH.out (P ++ Z1) X2 Y2 Q mid en b _ (by have := HN.out; have := HA.out; have := HM.out; omega) (by have h := HL.out; have := HLZ.out; rw [<- h.2, <- h.1, HE.out.1, HE.out.2.1]; simp only [List.length_append]; omega) (by have := HN.out; have := HLZ.out; have := HA.out; simp only [List.length_append]; omega) (by have := HN.out; omega) (by have := HN.out; omega) (by have := HN.out; omega) (by have := HN.out; omega) HT.out.2.1 HT.out.2.2.2 (by have h := hs3.out; simpa using h)).mono ?_
       rintro e wc ⟨rfl, Z2, hz2, hs4⟩
       replace hs4 := Lib.hid hs4
       have HZ2 := Lib.hid hz2
       clear hz2
       go_wp2_with fail
       go_end0
       refine ⟨rfl, Z1 ++ Z2, ?_, by have h := hs4.out; simpa using h⟩
       have hx := HX.out
       have hy := HY.out
       rw [HE.out.1] at hx ⊢
       rw [HE.out.2.1] at hy ⊢
       exact Srt.St.split HO.out hx hy HE.out.2.2.1 HE.out.2.2.2 HZ1.out HZ2.out
      ·have d6 : ¬ ((en : Int) < b) := by omega
       go_wp2_with fail
       refine (HROT.out (P ++ X1) X2 Y1 (Y2 ++ Q) s m en (by have := HN.out; have h := HL.out; rw [<- h.2, <- h.1, HE.out.1, HE.out.2.1]; simp [List.length_append]) (by have := HN.out; have := HA.out; simp only [List.length_append]; omega) (by have := HN.out; have := HA.out; simp only [List.length_append]; omega) (by have := HN.out; omega) (by have := HN.out; omega) (by have := HN.out; omega) _ (by have h := HS.out; rw [<- HL.out.1, HE.out.1, HE.out.2.1] at h; simpa using h)).mono ?_
       rintro e wa ⟨rfl, hs2⟩
       replace hs2 : Hid (SL enc k w0 blk off (P ++ (X1 ++ (Y1 ++ (X2 ++ (Y2 ++ Q))))) wa) := by show SL _ _ _ _ _ _ _; simpa using hs2
       obtain ⟨Z1, HZ1, hs3⟩ : ∃ Z1, Hid (Srt.St (ltC cf) Z1 (X1 ++ Y1)) /\ Hid (SL enc k w0 blk off (P ++ (Z1 ++ (X2 ++ (Y2 ++ Q)))) wa) := by
        refine ⟨X1 ++ Y1, ?_, ?_⟩
        ·have hz : X1 = [] \/ Y1 = [] := by rcases X1 with _ | ⟨_, _⟩ <;> rcases Y1 with _ | ⟨_, _⟩ <;> first | exact .inl rfl | exact .inr rfl | (exfalso; have := HN.out; simp only [List.length_cons] at this; omega)
         have h1 := HT.out
         rcases hz with hz | hz <;> rw [hz] at h1 ⊢
         ·exact Srt.St.self (by simpa using h1.2.2.1)
         ·exact Srt.St.self (by simpa using h1.1)
        ·have h := hs2.out; show SL _ _ _ _ _ _ _; simpa using h
       have HLZ : Hid (Z1.length = X1.length + Y1.length) := by have := HZ1.out.len HO.out; rw [List.length_append] at this; exact this
       have HZ2 : Hid (Srt.St (ltC cf) (X2 ++ Y2) (X2 ++ Y2)) := by
        have hz : X2 = [] \/ Y2 = [] := by rcases X2 with _ | ⟨_, _⟩ <;> rcases Y2 with _ | ⟨_, _⟩ <;> first | exact .inl rfl | exact .inr rfl | (exfalso; have := HN.out; simp only [List.length_cons] at this; omega)
        have h1 := HT.out
        rcases hz with hz | hz <;> rw [hz] at h1 ⊢
        ·exact Srt.St.self (by simpa using h1.2.2.2)
        ·exact Srt.St.self (by simpa using h1.2.1)
       go_wp2_with fail
       go_end0
       refine ⟨rfl, Z1 ++ (X2 ++ Y2), ?_, by have h := hs3.out; simpa using h⟩
       have hx := HX.out
       have hy := HY.out
       rw [HE.out.1] at hx ⊢
       rw [HE.out.2.1] at hy ⊢
       exact Srt.St.split HO.out hx hy HE.out.2.2.1 HE.out.2.2.2 HZ1.out HZ2.out
    ·have d2 : ¬ ((m : Int) < en) := by omega
     have d4 : ¬ ((s : Int) < mid) := by have := HN.out; omega
     have d6 : (en : Int) < b := by have := HN.out; have := HA.out; omega
     have d3 : (a : Int) < s := by have := HN.out; have := HM.out; omega
     have hs2 : Hid (SL enc k w0 blk off (P ++ (X1 ++ (Y1 ++ (X2 ++ (Y2 ++ Q))))) wr) := by
      have h := HS.out
      have hz : X2 = [] \/ Y1 = [] := by rcases X2 with _ | ⟨_, _⟩ <;> rcases Y1 with _ | ⟨_, _⟩ <;> first | exact .inl rfl | exact .inr rfl | (exfalso; have := HN.out; simp only [List.length_cons] at this; omega)
      rw [<- HL.out.1, HE.out.1, HE.out.2.1] at h
      show SL _ _ _ _ _ _ _
      rcases hz with hz | hz <;> rw [hz] at h ⊢ <;> simpa using h
     obtain ⟨Z1, HZ1, hs3⟩ : ∃ Z1, Hid (Srt.St (ltC cf) Z1 (X1 ++ Y1)) /\ Hid (SL enc k w0 blk off (P ++ (Z1 ++ (X2 ++ (Y2 ++ Q)))) wr) := by
      refine ⟨X1 ++ Y1, ?_, ?_⟩
      ·have hz : X1 = [] \/ Y1 = [] := by rcases X1 with _ | ⟨_, _⟩ <;> rcases Y1 with _ | ⟨_, _⟩ <;> first | exact .inl rfl | exact .inr rfl | (exfalso; have := HN.out; simp only [List.length_cons] at this; omega)
       have h1 := HT.out
       rcases hz with hz | hz <;> rw [hz] at h1 ⊢
       ·exact Srt.St.self (by simpa using h1.2.2.1)
       ·exact Srt.St.self (by simpa using h1.1)
      ·have h := hs2.out; show SL _ _ _ _ _ _ _; simpa using h
     have HLZ : Hid (Z1.length = X1.length + Y1.length) := by have := HZ1.out.len HO.out; rw [List.length_append] at this; exact this
     go_wp2_with fail
     refine (HIH.out (P ++ Z1) X2 Y2 Q mid en b _ (by have := HN.out; have := HA.out; have := HM.out; omega) (by have h := HL.out; have := HLZ.out; rw [<- h.2, <- h.1, HE.out.1, HE.out.2.1]; simp only [List.length_append]; omega) (by have := HN.out; have := HLZ.out; have := HA.out; simp only [List.length_append]; omega) (by have := HN.out; omega) (by have := HN.out; omega) (by have := HN.out; omega) (by have := HN.out; omega) HT.out.2.1 HT.out.2.2.2 (by have h := hs3.out; simpa using h)).mono ?_
     rintro e wc ⟨rfl, Z2, hz2, hs4⟩
     replace hs4 := Lib.hid hs4
     have HZ2 := Lib.hid hz2
     clear hz2
     go_wp2_with fail
     go_end0
     refine ⟨rfl, Z1 ++ Z2, ?_, by have h := hs4.out; simpa using h⟩
     have hx := HX.out
     have hy := HY.out
     rw [HE.out.1] at hx ⊢
     rw [HE.out.2.1] at hy ⊢
     exact Srt.St.split HO.out hx hy HE.out.2.2.1 HE.out.2.2.2 HZ1.out HZ2.out
   ·have d1 : ¬ ((s : Int) < m) := by omega
    have d5 : ¬ ((mid : Int) < en) := by have := HN.out; omega
    have d3 : (a : Int) < s := by have := HN.out; have := HA.out; omega
    by_cases c2 : m < en
    ·have d2 : (m : Int) < en := by omega
     have d4 : (s : Int) < mid := by have := HN.out; omega
     have hs2 : Hid (SL enc k w0 blk off (P ++ (X1 ++ (Y1 ++ (X2 ++ (Y2 ++ Q))))) wr) := by
      have h := HS.out
      have hz : X2 = [] \/ Y1 = [] := by rcases X2 with _ | ⟨_, _⟩ <;> rcases Y1 with _ | ⟨_, _⟩ <;> first | exact .inl rfl | exact .inr rfl | (exfalso; have := HN.out; simp only [List.length_cons] at this; omega)
      rw [<- HL.out.1, HE.out.1, HE.out.2.1] at h
      show SL _ _ _ _ _ _ _
      rcases hz with hz | hz <;> rw [hz] at h ⊢ <;> simpa using h
     go_wp2_with fail
     refine (HIH.out P X1 Y1 (X2 ++ (Y2 ++ Q)) a s mid _ (by have := HN.out; have := HA.out; have := HM.out; omega) (by have h := HL.out; rw [<- h.2, <- h.1, HE.out.1, HE.out.2.1]; simp only [List.length_append]; omega) HA.out.1 (by have := HN.out; omega) (by have := HN.out; omega) (by have := HN.out; omega) (by have := HN.out; omega) HT.out.1 HT.out.2.2.1 hs2.out).mono ?_
     rintro e wb ⟨rfl, Z1, hz1, hs3⟩
     replace hs3 := Lib.hid hs3
     have HZ1 := Lib.hid hz1
     clear hz1
     have HLZ : Hid (Z1.length = X1.length + Y1.length) := by have := HZ1.out.len HO.out; rw [List.length_append] at this; exact this
     have HZ2 : Hid (Srt.St (ltC cf) (X2 ++ Y2) (X2 ++ Y2)) := by
      have hz : X2 = [] \/ Y2 = [] := by rcases X2 with _ | ⟨_, _⟩ <;> rcases Y2 with _ | ⟨_, _⟩ <;> first | exact .inl rfl | exact .inr rfl | (exfalso; have := HN.out; simp only [List.length_cons] at this; omega)
      have h1 := HT.out
      rcases hz with hz | hz <;> rw [hz] at h1 ⊢
      ·exact Srt.St.self (by simpa using h1.2.2.2)
      ·exact Srt.St.self (by simpa using h1.2.1)
     go_wp2_with fail
     go_end0
     refine ⟨rfl, Z1 ++ (X2 ++ Y2), ?_, by have h := hs3.out; simpa using h⟩
     have hx := HX.out
     have hy := HY.out
     rw [HE.out.1] at hx ⊢
     rw [HE.out.2.1] at hy ⊢
     exact Srt.St.split HO.out hx hy HE.out.2.2.1 HE.out.2.2.2 HZ1.out HZ2.out
    ·have d2 : ¬ ((m : Int) < en) := by omega
     have d4 : ¬ ((s : Int) < mid) := by have := HN.out; omega
     have hs2 : Hid (SL enc k w0 blk off (P ++ (X1 ++ (Y1 ++ (X2 ++ (Y2 ++ Q))))) wr) := by
      have h := HS.out
      have hz : X2 = [] \/ Y1 = [] := by rcases X2 with _ | ⟨_, _⟩ <;> rcases Y1 with _ | ⟨_, _⟩ <;> first | exact .inl rfl | exact .inr rfl | (exfalso; have := HN.out; simp only [List.length_cons] at this; omega)
      rw [<- HL.out.1, HE.out.1, HE.out.2.1] at h
      show SL _ _ _ _ _ _ _
      rcases hz with hz | hz <;> rw [hz] at h ⊢ <;> simpa using h
     obtain ⟨Z1, HZ1, hs3⟩ : ∃ Z1, Hid (Srt.St (ltC cf) Z1 (X1 ++ Y1)) /\ Hid (SL enc k w0 blk off (P ++ (Z1 ++ (X2 ++ (Y2 ++ Q)))) wr) := by
      refine ⟨X1 ++ Y1, ?_, ?_⟩
      ·have hz : X1 = [] \/ Y1 = [] := by rcases X1 with _ | ⟨_, _⟩ <;> rcases Y1 with _ | ⟨_, _⟩ <;> first | exact .inl rfl | exact .inr rfl | (exfalso; have := HN.out; simp only [List.length_cons] at this; omega)
       have h1 := HT.out
       rcases hz with hz | hz <;> rw [hz] at h1 ⊢
       ·exact Srt.St.self (by simpa using h1.2.2.1)
       ·exact Srt.St.self (by simpa using h1.1)
      ·have h := hs2.out; show SL _ _ _ _ _ _ _; simpa using h
     have HLZ : Hid (Z1.length = X1.length + Y1.length) := by have := HZ1.out.len HO.out; rw [List.length_append] at this; exact this
     have HZ2 : Hid (Srt.St (ltC cf) (X2 ++ Y2) (X2 ++ Y2)) := by
      have hz : X2 = [] \/ Y2 = [] := by rcases X2 with _ | ⟨_, _⟩ <;> rcases Y2 with _ | ⟨_, _⟩ <;> first | exact .inl rfl | exact .inr rfl | (exfalso; have := HN.out; simp only [List.length_cons] at this; omega)
      have h1 := HT.out
      rcases hz with hz | hz <;> rw [hz] at h1 ⊢
      ·exact Srt.St.self (by simpa using h1.2.2.2)
      ·exact Srt.St.self (by simpa using h1.2.1)
     go_wp2_with fail
     go_end0
     refine ⟨rfl, Z1 ++ (X2 ++ Y2), ?_, by have h := hs3.out; simpa using h⟩
     have hx := HX.out
     have hy := HY.out
     rw [HE.out.1] at hx ⊢
     rw [HE.out.2.1] at hy ⊢
     exact Srt.St.split HO.out hx hy HE.out.2.2.1 HE.out.2.2.2 HZ1.out HZ2.out
end
end Fl
end Go.Proofs.YtneghhbclefmoaaGreat
end
section
namespace Go.Proofs.YtneghhbclefmoaaGreat
namespace Fl
open Go.RowKit Go.Shelf Go.Sort
set_option maxRecDepth 100000
section
variable {α : Type} [Inhabited α] {enc : α -> List Value} {k : Nat} {w0 : World} {blk off : Nat}
theorem symMerge_any {n : Nat} (g : SG enc k w0 blk off n) (aE : ∀ w, (isAgg 94).run Tryz.prog w = .ok true w) (zE : ∀ w, (Go.sizeOf 94).run Tryz.prog w = .ok k w) (hn : n <= 1000000) (cap : Nat)
  (gf : Nat) (eg : ∀ args w, (callFunc gf args).run Tryz.prog w = .ok (.enter gf args) w) (cf : α -> α -> Int) (hC : CmpOk gf enc k cf w0 blk off n) (ho : Srt.Ord (ltC cf)) (N : Nat) : SymOk gf enc k cf w0 blk off n cap N := by
 induction N using Nat.strongRecOn with
 | _ N ih =>
  intro P X Y Q a m b W hN hl ha hm hb hx hy hX hY hs
  by_cases h1 : X.length = 1
  ·obtain ⟨x, rfl⟩ := List.length_eq_one_iff.1 h1
   exact symMerge_one g aE zE hn cap gf eg cf hC ho P x Y Q a m b hl ha (by rw [<- hm]; rfl) hb hY W hs
  ·by_cases h2 : Y.length = 1
   ·obtain ⟨y, rfl⟩ := List.length_eq_one_iff.1 h2
    exact symMerge_last g aE zE hn cap gf eg cf hC ho P X y Q a m b hl ha hm (by rw [<- hb]; rfl) h1 hX W hs
   ·rcases Nat.lt_or_ge ((a + b) / 2) m with hc | hc
    ·exact symMerge_Fa g aE zE hn cap gf eg cf hC ho P X Y Q a m b (ih _ hN) hl ha hm hb (by omega) (by omega) hX hY hc W hs
    ·exact symMerge_Fb g aE zE hn cap gf eg cf hC ho P X Y Q a m b (ih _ hN) hl ha hm hb (by omega) (by omega) hX hY hc W hs
set_option maxHeartbeats 2000000 in
theorem stable_any {n : Nat} (g : SG enc k w0 blk off n) (aE : ∀ w, (isAgg 94).run Tryz.prog w = .ok true w) (zE : ∀ w, (Go.sizeOf 94).run Tryz.prog w = .ok k w) (hn : n <= 1000000) (cap : Nat)
  (gf : Nat) (eg : ∀ args w, (callFunc gf args).run Tryz.prog w = .ok (.enter gf args) w) (cf : α -> α -> Int) (hC : CmpOk gf enc k cf w0 blk off n) (ho : Srt.Ord (ltC cf))
  (l : List α) (hl : l.length = n) (W : World) (hs : SL enc k w0 blk off l W) :
  Calls Tryz.prog 180 #[.slice (some ⟨blk, off, none⟩) n cap, .int .i64 n, .func (.func gf) #[] #[]] W fun e w' => e = .returned (.tuple #[]) /\ SL enc k w0 blk off (Srt.srt (ltC cf) l) w' := by
 have HINS := Lib.hid (@insertion_any α _ enc k w0 blk off n g aE zE hn cap gf eg cf hC ho)
 have HSYM := Lib.hid (fun N => symMerge_any g aE zE hn cap gf eg cf hC ho N)
 have HO := Lib.hid ho
 have hnn : (n : Int) <= 1000000 := by omega
 have HLL := Lib.hid hl
 clear g aE zE hn eg hC ho hl
 go_enter Tryz.func180, Tryz.ntmps180
 go_wp2
 go_loopw [7, 8] (fun va vb wr => ∃ (a b : Nat) (D T : List α), va = .int .i64 a /\ vb = .int .i64 b /\ Hid (b = a + 20 /\ D.length = a /\ Srt.Bk (ltC cf) 20 D /\ a + T.length = n /\ Srt.Alike (ltC cf) (D ++ T) l) /\ SL enc k w0 blk off (D ++ T) wr) (fun va _ _ => n - (intOf va).toNat)
 case atStart => exact ⟨0, 20, [], l, rfl, rfl, ⟨rfl, rfl, .nil, by have := HLL.out; omega, .refl _⟩, hs⟩
 case round =>
  obtain ⟨a, b, D, T, rfl, rfl, HD, hs1⟩ := hrel
  by_cases hlt : b <= n
  ·have hltz : (b : Int) <= (n : Int) := by omega
   have w1 : IntKind.i64.wrap ((b : Int) + 20) = ((b + 20 : Nat) : Int) := by rw [IntWalk.i64_in _ (by omega)]; omega
   obtain ⟨X, hX⟩ : ∃ X, T.take 20 = X := ⟨_, rfl⟩
   obtain ⟨Q, hQ⟩ : ∃ Q, T.drop 20 = Q := ⟨_, rfl⟩
   have HT : Hid (T = X ++ Q /\ X.length = 20 /\ T.length = 20 + Q.length) := by
    have := HD.out
    refine ⟨by rw [<- hX, <- hQ, List.take_append_drop], by rw [<- hX, List.length_take]; omega, by rw [<- hQ, List.length_drop]; omega⟩
   clear hlt hX hQ
   go_wp2_with fail
   refine (HINS.out D X Q a b (by have := HD.out; have h := HT.out; rw [<- h.1]; simp only [List.length_append]; omega) HD.out.2.1 (by have := HD.out; have := HT.out; omega) _ (by rw [<- HT.out.1]; exact hs1)).mono ?_
   rintro e wa ⟨rfl, hs2⟩
   replace hs2 := Lib.hid hs2
   go_wp2_with fail
   refine ⟨⟨b, b + 20, D ++ Srt.srt (ltC cf) X, Q, rfl, rfl, ?_, by have h := hs2.out; simpa using h⟩, ?_⟩
   ·obtain ⟨h1, h2, h3, h4, h5⟩ := HD.out
    obtain ⟨t1, t2, t3⟩ := HT.out
    refine ⟨rfl, by rw [List.length_append, Srt.srt_len]; omega, h3.snoc (by rw [Srt.srt_len]; exact t2) (Srt.srt_st HO.out X).1, by omega, ?_⟩
    rw [List.append_assoc]
    rw [t1] at h5
    exact (Srt.Alike.append (.refl _) (Srt.Alike.append (Srt.srt_st HO.out X).2 (.refl _))).trans h5
   ·have := HD.out; have := HT.out; simp only [intOf, Int.toNat_natCast]; omega
  ·have hltz : ¬ ((b : Int) <= (n : Int)) := by omega
   have HT : Hid (T.length < 20) := by have := HD.out; show T.length < 20; omega
   clear hlt
   go_wp2_with fail
   refine (HINS.out D T [] a n (by have := HD.out; simp only [List.length_append, List.length_nil]; omega) HD.out.2.1 (by have := HD.out; omega) _ (by simpa using hs1)).mono ?_
   rintro e wa ⟨rfl, hs2⟩
   have hs3 : SL enc k w0 blk off (D ++ Srt.srt (ltC cf) T) wa := by simpa using hs2
   clear hs1 hs2
   go_wp2_with fail
   go_loopw [6] (fun vs wr => ∃ (bs : Nat) (D T : List α), vs = .int .i64 bs /\ Hid (20 <= bs /\ Srt.Bk (ltC cf) bs D /\ T.length < bs /\ Srt.Sorted (ltC cf) T /\ D.length + T.length = n /\ Srt.Alike (ltC cf) (D ++ T) l) /\ SL enc k w0 blk off (D ++ T) wr) (fun vs _ => n - (intOf vs).toNat)
   case atStart =>
    refine ⟨20, D, Srt.srt (ltC cf) T, rfl, ?_, hs3⟩
    obtain ⟨h1, h2, h3, h4, h5⟩ := HD.out
    have := HT.out
    refine ⟨Nat.le_refl _, h3, by rw [Srt.srt_len]; exact this, (Srt.srt_st HO.out T).1, by rw [Srt.srt_len]; omega, ?_⟩
    exact (Srt.Alike.append (.refl _) (Srt.srt_st HO.out T).2).trans h5
   case round =>
    clear hs3 HD HT
    obtain ⟨bs, D, T, rfl, HD, hs1⟩ := hrel
    by_cases hlt : bs < n
    ·have hltz : (bs : Int) < (n : Int) := by omega
     obtain ⟨b2, hb2⟩ : ∃ b2, b2 = 2 * bs := ⟨_, rfl⟩
     have w1 : IntKind.i64.wrap (2 * (bs : Int)) = (b2 : Int) := by rw [IntWalk.i64_in _ (by omega)]; omega
     have w2 : IntKind.i64.wrap ((bs : Int) * 2) = (b2 : Int) := by rw [IntWalk.i64_in _ (by omega)]; omega
     have HB := Lib.hid (And.intro hb2 hlt)
     clear hb2 hlt
     go_wp2
     go_loopw [7, 8] (fun va vb wr => ∃ (a b : Nat) (E D : List α), va = .int .i64 a /\ vb = .int .i64 b /\ Hid (b = a + b2 /\ E.length = a /\ Srt.Bk (ltC cf) b2 E /\ Srt.Bk (ltC cf) bs D /\ a + D.length + T.length = n /\ Srt.Alike (ltC cf) (E ++ (D ++ T)) l) /\ SL enc k w0 blk off (E ++ (D ++ T)) wr) (fun va _ _ => n - (intOf va).toNat)
     case atStart =>
      have h := HD.out
      exact ⟨0, b2, [], D, rfl, rfl, ⟨by omega, rfl, .nil, h.2.1, by omega, h.2.2.2.2.2⟩, hs1⟩
     case round =>
      clear hs1
      obtain ⟨a, b, E, D, rfl, rfl, HE, hs1⟩ := hrel
      have HD' : Hid (20 <= bs /\ T.length < bs /\ Srt.Sorted (ltC cf) T) := ⟨HD.out.1, HD.out.2.2.1, HD.out.2.2.2.1⟩
      clear HD
      have w3 : IntKind.i64.wrap ((a : Int) + bs) = ((a + bs : Nat) : Int) := by have := HE.out; rw [IntWalk.i64_in _ (by omega)]; omega
      by_cases hlt : b <= n
      ·have hltz : (b : Int) <= (n : Int) := by omega
       obtain ⟨m, hm⟩ : ∃ m, m = a + bs := ⟨_, rfl⟩
       rw [<- hm] at w3
       obtain ⟨bb, hbb⟩ : ∃ bb, bb = b + b2 := ⟨_, rfl⟩
       have w4 : IntKind.i64.wrap ((b : Int) + b2) = (bb : Int) := by have := HE.out; have := HB.out; rw [IntWalk.i64_in _ (by omega)]; omega
       have htwo := HE.out.2.2.2.1.two (by have := HE.out; have := HB.out; have := HD'.out; omega)
       obtain ⟨B1, B2, D', hD, l1, l2, s1, s2, hbk⟩ := htwo
       subst hD
       have HQ := Lib.hid (And.intro hm (And.intro hbb (And.intro l1 (And.intro l2 (And.intro s1 (And.intro s2 hbk))))))
       clear hlt hm hbb l1 l2 s1 s2 hbk
       go_wp2_with fail
       refine (HSYM.out (n + 1) E B1 B2 (D' ++ T) a m b _ (by have := HE.out; have := HQ.out; simp only [List.length_append] at *; omega) (by have := HE.out; simp only [List.length_append] at *; omega) HE.out.2.1 (by have := HQ.out; omega) (by have := HQ.out; have := HE.out; have := HB.out; omega) (by have := HQ.out; have := HD'.out; omega) (by have := HQ.out; have := HD'.out; omega) HQ.out.2.2.2.2.1 HQ.out.2.2.2.2.2.1 (by simpa using hs1)).mono ?_
       rintro e wb ⟨rfl, Z, hz, hs2⟩
       replace hs2 := Lib.hid hs2
       have HZ := Lib.hid hz
       clear hz
       go_wp2_with fail
       refine ⟨⟨b, bb, E ++ Z, D', rfl, rfl, ?_, by have h := hs2.out; simpa using h⟩, ?_⟩
       ·obtain ⟨h1, h2, h3, h4, h5, h6⟩ := HE.out
        obtain ⟨q1, q2, q3, q4, q5, q6, q7⟩ := HQ.out
        have hzl := HZ.out.len HO.out
        have hb := HB.out.1
        simp only [List.length_append] at hzl h5
        refine ⟨q2, by rw [List.length_append]; omega, h3.snoc (by omega) HZ.out.1, q7, by omega, ?_⟩
        rw [List.append_assoc]
        refine (Srt.Alike.append (.refl _) (Srt.Alike.append HZ.out.2 (.refl _))).trans ?_
        simpa using h6
       ·have := HE.out; have := HB.out; have := HD'.out; simp only [intOf, Int.toNat_natCast]; omega
      ·have hltz : ¬ ((b : Int) <= (n : Int)) := by omega
       have hless := HE.out.2.2.2.1.less (by have := HD'.out; omega) (by have := HE.out; have := HB.out; omega)
       obtain ⟨m, hm⟩ : ∃ m, m = a + bs := ⟨_, rfl⟩
       rw [<- hm] at w3
       by_cases hmn : m < n
       ·have hmz : (m : Int) < n := by omega
        have HQ : Hid (m = a + bs /\ D.length = bs /\ Srt.Sorted (ltC cf) D /\ 0 < T.length) := by
         have := HE.out; have := HD'.out
         rcases hless with rfl | ⟨h1, h2⟩
         ·simp only [List.length_nil] at *; omega
         ·exact ⟨hm, h1, h2, by omega⟩
        clear hlt hm hmn hless
        go_wp2_with fail
        refine (HSYM.out (n + 1) E D T [] a m n _ (by have := HE.out; omega) (by have := HE.out; simp only [List.length_append, List.length_nil] at *; omega) HE.out.2.1 (by have := HQ.out; omega) (by have := HQ.out; have := HE.out; omega) (by have := HQ.out; have := HD'.out; omega) (by have := HQ.out; omega) HQ.out.2.2.1 HD'.out.2.2 (by simpa using hs1)).mono ?_
        rintro e wb ⟨rfl, Z, hz, hs2⟩
        replace hs2 := Lib.hid hs2
        have HZ := Lib.hid hz
        clear hz
        go_wp2_with fail
        refine ⟨⟨b2, E, Z, rfl, ?_, by have h := hs2.out; simpa using h⟩, ?_⟩
        ·obtain ⟨h1, h2, h3, h4, h5, h6⟩ := HE.out
         have hzl := HZ.out.len HO.out
         have hb := HB.out.1
         have hd := HD'.out
         have hq := HQ.out
         simp only [List.length_append] at hzl
         refine ⟨by omega, h3, by omega, HZ.out.1, by omega, ?_⟩
         exact (Srt.Alike.append (.refl _) HZ.out.2).trans h6
        ·have := HB.out; have := HD'.out; simp only [intOf, Int.toNat_natCast]; omega
       ·have hmz : ¬ ((m : Int) < n) := by omega
        have HQ : Hid (Srt.Sorted (ltC cf) (D ++ T) /\ D.length + T.length <= bs) := by
         have := HE.out; have hd := HD'.out
         rcases hless with rfl | ⟨h1, h2⟩
         ·exact ⟨by simpa using hd.2.2, by simp only [List.length_nil]; omega⟩
         ·have h0 : T = [] := List.length_eq_zero_iff.1 (by omega)
          rw [h0, List.append_nil]; exact ⟨h2, by simp only [List.length_nil]; omega⟩
        clear hlt hm hmn hless
        replace hs1 := Lib.hid hs1
        go_wp2_with fail
        refine ⟨⟨b2, E, D ++ T, rfl, ?_, hs1.out⟩, ?_⟩
        ·obtain ⟨h1, h2, h3, h4, h5, h6⟩ := HE.out
         have hb := HB.out.1
         have hd := HD'.out
         have hq := HQ.out
         refine ⟨by omega, h3, by rw [List.length_append]; omega, hq.1, by rw [List.length_append]; omega, h6⟩
        ·have := HB.out; have := HD'.out; simp only [intOf, Int.toNat_natCast]; omega
    ·have hltz : ¬ ((bs : Int) < (n : Int)) := by omega
     have HR : Hid (D ++ T = Srt.srt (ltC cf) l) := by
      obtain ⟨h1, h2, h3, h4, h5, h6⟩ := HD.out
      refine Srt.St.eq_srt HO.out ⟨?_, h6⟩
      rcases h2.less (by omega) (by omega) with rfl | ⟨e1, e2⟩
      ·simpa using h4
      ·have h0 : T = [] := List.length_eq_zero_iff.1 (by omega)
       rw [h0, List.append_nil]; exact e2
     have HS := Lib.hid hs1
     clear hs1 hlt
     go_wp2
     go_end0
     exact ⟨rfl, by rw [<- HR.out]; exact HS.out⟩
set_option maxHeartbeats 1000000 in
theorem sortStable_any {n : Nat} (g : SG enc k w0 blk off n) (aE : ∀ w, (isAgg 94).run Tryz.prog w = .ok true w) (zE : ∀ w, (Go.sizeOf 94).run Tryz.prog w = .ok k w) (hn : n <= 1000000) (cap : Nat)
  (gf : Nat) (eg : ∀ args w, (callFunc gf args).run Tryz.prog w = .ok (.enter gf args) w) (cf : α -> α -> Int) (hC : CmpOk gf enc k cf w0 blk off n) (ho : Srt.Ord (ltC cf))
  (l : List α) (hl : l.length = n) (W : World) (hs : SL enc k w0 blk off l W) :
  Calls Tryz.prog 159 #[.slice (some ⟨blk, off, none⟩) n cap, .func (.func gf) #[] #[]] W fun e w' => e = .returned (.tuple #[]) /\ SL enc k w0 blk off (Srt.srt (ltC cf) l) w' := by
 have HC := Lib.hid (stable_any g aE zE hn cap gf eg cf hC ho l hl W hs)
 clear hC hs aE zE eg g
 go_enter Tryz.func159, Tryz.ntmps159
 go_wp2_with fail
 refine HC.out.mono ?_
 rintro e wa ⟨rfl, hs2⟩
 have HS := Lib.hid hs2
 clear hs2
 go_wp2_with fail
 go_end0
 exact ⟨rfl, HS.out⟩
end
end Fl
end Go.Proofs.YtneghhbclefmoaaGreat
end
section
namespace Go.Proofs.YtneghhbclefmoaaGreat
open Go.RowKit Go.Shelf Go.Sort
set_option maxRecDepth 100000
abbrev ElF (w : World) := { x : List Value × PFl // FlRd x.1 x.2 w /\ NB x.2.owner }
instance (w : World) : Inhabited (ElF w) := ⟨⟨([.int .i64 0, .slice none 0 0, .int .i64 0], ⟨0, [], 0⟩), ⟨_, rfl, Rd.nil w⟩, NB.nil'⟩⟩
def encF {w : World} (x : ElF w) : List Value := x.1.1
def cfF {w : World} (x y : ElF w) : Int := Ck.cmp x.1.2 y.1.2
theorem ElF.cells {w : World} (x : ElF w) : ∃ p n q, encF x = [.int .i64 x.1.2.kind, .slice p n q, .int .i64 x.1.2.type] /\ Rd (.slice p n q) x.1.2.owner w := by
 obtain ⟨vo, e, h⟩ := x.2.1
 obtain ⟨o, c, rfl, _, _⟩ := h.form
 exact ⟨o, _, c, e, h⟩
theorem encF_len {w : World} (x : ElF w) : (encF x).length = 3 := by obtain ⟨p, n, q, e, _⟩ := x.cells; rw [e]; rfl
theorem encF_one {w : World} (x : ElF w) : ∀ u ∈ encF x, u.oneCell' = true := by
 obtain ⟨p, n, q, e, _⟩ := x.cells
 rw [e]
 intro u hu
 simp only [List.mem_cons, List.not_mem_nil, or_false] at hu
 rcases hu with rfl | rfl | rfl <;> rfl
namespace Fl
theorem cfF_ord (w : World) : Srt.Ord (ltC (cfF (w := w))) := (Ck.cmp_cm.pull (fun x : ElF w => x.1.2)).ord
theorem cmpOk (w w0 : World) (blk off n : Nat) (hb : Below w.heap.size w w0) (hblk : w.heap.size <= blk) : CmpOk 44 (encF (w := w)) 3 cfF w0 blk off n := by
 intro W l hs hl x y
 have hw := below_row hb hblk hs.grown
 exact ckCompare_any _ _ _ _ _ (x.2.1.below hw) (y.2.1.below hw) x.2.2 y.2.2
section
variable {α : Type} [Inhabited α] {enc : α -> List Value}
theorem flatK_get (hk : ∀ x, (enc x).length = 3) (l : List α) (j : Nat) (hj : j < l.length * 3) : (l.flatMap enc)[j]? = some (flatK enc 3 l.toArray)[j]! := by
 rw [get_flatK _ _ _ _ (by simpa using hj)]
 have h1 : j / 3 < l.length := by omega
 have h2 : j % 3 < 3 := Nat.mod_lt _ (by omega)
 have h3 := flat_get enc 3 hk l (j / 3) (j % 3) h1 h2
 rw [show j / 3 * 3 + j % 3 = j by omega] at h3
 rw [h3, get_list h1, getElem!_pos (enc l[j / 3]) (j % 3) (by rw [hk]; exact h2), List.getElem?_eq_getElem]
theorem holds_row (hk : ∀ x, (enc x).length = 3) {g _cap : Nat} {cur : Array Value} {e : TypeId} {W : World} {l : List α} (hg : W.heap[g]? = some (.cells cur e (0, 0))) (hc : cur.toList.take (l.length * 3) = l.flatMap enc) : HoldsK enc 3 W g 0 l.toArray := by
 intro j hj
 rw [size_flatK] at hj
 have hj' : j < l.length * 3 := by simpa using hj
 refine ⟨?_, by simp [World.frozen?, hg]⟩
 rw [Nat.zero_add, cell_of_row W g j _ _ _ hg]
 have := congrArg (fun l => l[j]?) hc
 simp only [List.getElem?_take, hj', if_true] at this
 rw [flatK_get hk l j hj'] at this
 simpa using this
theorem row_holds (hk : ∀ x, (enc x).length = 3) {g : Nat} {cur : Array Value} {e : TypeId} {W : World} {l : List α} (hg : W.heap[g]? = some (.cells cur e (0, 0))) (h : HoldsK enc 3 W g 0 l.toArray) (_hs : l.length * 3 <= cur.size) : cur.toList.take (l.length * 3) = l.flatMap enc := by
 refine List.ext_getElem? fun j => ?_
 rw [List.getElem?_take]
 split
 ·rename_i hj
  have h1 := (h j (by rw [size_flatK]; simpa using hj)).1
  rw [Nat.zero_add, cell_of_row W g j _ _ _ hg] at h1
  rw [flatK_get hk l j hj]
  simpa using h1
 ·rename_i hj
  rw [List.getElem?_eq_none (by rw [flat_len enc 3 hk]; omega)]
end
theorem agg_flaw (w : World) : (isAgg 94).run Tryz.prog w = .ok true w := by simp [go_sem]
theorem size_flaw (w : World) : (Go.sizeOf 94).run Tryz.prog w = .ok 3 w := by simp [go_sem]
theorem eg_cmp (args : Array Value) (w : World) : (callFunc 44 args).run Tryz.prog w = .ok (.enter 44 args) w := by simp [go_sem]
set_option maxHeartbeats 1000000 in
theorem insertion_nil (vf : Value) (w : World) : Calls Tryz.prog 203 #[.slice none 0 0, .int .i64 0, .int .i64 0, vf] w fun e w' => e = .returned (.tuple #[]) /\ w' = w := by
 go_enter Tryz.func203, Tryz.ntmps203
 go_wp2
 go_loopw [8] (fun vi wr => vi = .int .i64 1 /\ wr = w) (fun _ _ => 0)
 case atStart => exact ⟨rfl, rfl⟩
 case round =>
  obtain ⟨rfl, rfl⟩ := hrel
  go_wp2
  go_end0
  exact ⟨rfl, rfl⟩
set_option maxHeartbeats 1000000 in
theorem stable_nil (vf : Value) (w : World) : Calls Tryz.prog 180 #[.slice none 0 0, .int .i64 0, vf] w fun e w' => e = .returned (.tuple #[]) /\ w' = w := by
 go_enter Tryz.func180, Tryz.ntmps180
 go_wp2
 go_loopw [7, 8] (fun va vb wr => va = .int .i64 0 /\ vb = .int .i64 20 /\ wr = w) (fun _ _ _ => 0)
 case atStart => exact ⟨rfl, rfl, rfl⟩
 case round =>
  obtain ⟨rfl, rfl, rfl⟩ := hrel
  go_wp2_with fail
  refine (insertion_nil _ _).mono ?_
  rintro e w1 ⟨rfl, rfl⟩
  go_wp2_with fail
  go_loopw [6] (fun vs wr => vs = .int .i64 20 /\ wr = w1) (fun _ _ => 0)
  case atStart => exact ⟨rfl, rfl⟩
  case round =>
   obtain ⟨rfl, rfl⟩ := hrel
   go_wp2
   go_end0
   exact ⟨rfl, rfl⟩
set_option maxHeartbeats 1000000 in
theorem sortFlaws_any {w w0 : World} (v : Value) (l : List (ElF w)) (hrow : Row (Own w) 94 3 v l.length (l.flatMap encF) w0) (hb : Below w.heap.size w w0) (hn : l.length <= 10000) :
  Calls Tryz.prog 159 #[v, .func (.func 44) #[] #[]] w0 fun e w' => e = .returned (.tuple #[]) /\ Row (Own w) 94 3 v l.length ((Srt.srt (ltC cfF) l).flatMap encF) w' /\ Below w.heap.size w w' := by
 obtain ⟨⟨hl, ho⟩, hro⟩ := hrow
 rcases ho with ⟨rfl, h0⟩ | ⟨g, cap, cur, rfl, _, hg, h1, h2, h3, h4⟩
 ·have hl0 : l = [] := List.length_eq_zero_iff.1 h0
  subst hl0
  go_enter Tryz.func159, Tryz.ntmps159
  go_wp2_with fail
  refine (stable_nil _ _).mono ?_
  rintro e w1 ⟨rfl, rfl⟩
  go_wp2_with fail
  go_end0
  exact ⟨rfl, Row.nil _ _ _ _, hb⟩
 ·have hgo : w.heap.size <= g := hro g rfl
  have hgl := (Array.getElem?_eq_some_iff.1 hg).1
  have hH := holds_row (enc := encF (w := w)) encF_len (_cap := cap) hg h4
  have hsg : SG (encF (w := w)) 3 w0 g 0 l.length := ⟨encF_len, fun x => encF_one x, ⟨l.toArray, by simp, hH⟩, hgl⟩
  refine (sortStable_any hsg agg_flaw size_flaw (by omega) cap 44 eg_cmp cfF (cmpOk w w0 g 0 l.length hb hgo) (cfF_ord w) l rfl w0 (SL.start hsg hH)).mono ?_
  rintro e w' ⟨rfl, hs⟩
  obtain ⟨cur', hg', hsz⟩ := hs.block hg
  have hsl : (Srt.srt (ltC cfF) l).length = l.length := Srt.srt_len l
  have hH' : HoldsK (encF (w := w)) 3 w' g 0 (Srt.srt (ltC cfF) l).toArray := by
   obtain ⟨t, h⟩ := hs
   obtain ⟨d0, e0, R⟩ := hsg.row t
   exact h.holds R.hblk R.hH (by rw [e0]; simp [hsl])
  refine ⟨rfl, ⟨⟨by rw [flat_len encF 3 encF_len, hsl], .inr ⟨g, cap, cur', rfl, by omega, hg', h1, h2, by rw [hsz]; exact h3, ?_⟩⟩, hro⟩, below_row hb hgo hs.grown⟩
  have := row_holds (enc := encF (w := w)) encF_len hg' hH' (by rw [hsl, hsz, h3]; exact Nat.mul_le_mul_right _ h1)
  rw [hsl] at this
  exact this
end Fl
end Go.Proofs.YtneghhbclefmoaaGreat
end
section
namespace Go.Proofs.YtneghhbclefmoaaGreat
open Go.RowKit Go.Shelf Go.Sort
set_option maxRecDepth 100000
namespace Ck
def fewL : PFl -> List PFl -> List PFl
 | x, [] => [x]
 | x, y :: l => if cmp x y = 0 then fewL x l else x :: fewL y l
def few : List PFl -> List PFl
 | [] => []
 | x :: l => fewL x l
def addF (out : List PFl) (x : PFl) : List PFl := match out.getLast? with
 | none => [x]
 | some y => if cmp y x = 0 then out else out ++ [x]
theorem foldl_addF : ∀ (l out : List PFl) (c : PFl), l.foldl addF (out ++ [c]) = out ++ fewL c l
 | [], out, c => rfl
 | y :: l, out, c => by
  have e : addF (out ++ [c]) y = if cmp c y = 0 then out ++ [c] else (out ++ [c]) ++ [y] := by simp [addF]
  rw [List.foldl_cons, e, fewL]
  split
  ·exact foldl_addF l out c
  ·rw [foldl_addF l (out ++ [c]) y, List.append_assoc]; rfl
theorem few_foldl (l : List PFl) : l.foldl addF [] = few l := by
 cases l with
 | nil => rfl
 | cons x l => exact foldl_addF l [] x
theorem addF_join (o : List PFl) (y x : PFl) (h : cmp y x = 0) : addF (o ++ [y]) x = o ++ [y] := by simp [addF, h]
theorem addF_more (o : List PFl) (y x : PFl) (h : cmp y x ≠ 0) : addF (o ++ [y]) x = (o ++ [y]) ++ [x] := by simp [addF, h]
end Ck
def plF {w : World} (l : List (ElF w)) : List PFl := l.map fun x => x.1.2
theorem plF_snoc {w : World} (o : List (ElF w)) (y : ElF w) : plF (o ++ [y]) = plF o ++ [y.1.2] := by simp [plF]
theorem info_flaw : (Tryz.prog.info? 94).map (fun i => (i.zero, i.size, i.bytes)) = some (some (.agg #[.int .i64 0, .slice none 0 0, .int .i64 0]), 3, 40) := by kernel_rfl
def Bx3 (g : Nat) (c0 c1 c2 : Value) (W : World) : Prop := W.cell? ⟨g, 0, none⟩ = some c0 /\ W.cell? ⟨g, 1, none⟩ = some c1 /\ W.cell? ⟨g, 2, none⟩ = some c2
theorem Bx3.below {g c0 c1 c2} {W W' : World} (h : Bx3 g c0 c1 c2 W) (hb : Below W.heap.size W W') : Bx3 g c0 c1 c2 W' := by
 obtain ⟨h0, h1, h2⟩ := h
 exact ⟨(hb.cell (cell_lt h0)).trans h0, (hb.cell (cell_lt h1)).trans h1, (hb.cell (cell_lt h2)).trans h2⟩
theorem Bx3.of {W : World} {g : Nat} {c0 c1 c2 : Value} {t : TypeId} (h : W.heap[g]? = some (.cells #[c0, c1, c2] t (0, 0))) : Bx3 g c0 c1 c2 W := by
 refine ⟨?_, ?_, ?_⟩ <;> rw [cell_of_row W g _ _ _ _ h] <;> rfl
theorem flat3 {w : World} (l : List (ElF w)) (i : Nat) (hi : i < l.length) (c : Nat) (hc : c < 3) : (l.flatMap encF)[i * 3 + c]? = (encF l[i])[c]? := flat_get encF 3 encF_len l i c hi hc
theorem Row.elF {w : World} {R : Nat -> Prop} {e : TypeId} {g cap : Nat} {l : List (ElF w)} {W : World} (h : Row R e 3 (.slice (some ⟨g, 0, none⟩) l.length cap) l.length (l.flatMap encF) W) (i : Nat) (hi : i < l.length) {c0 c1 c2 : Value} (hx : encF l[i] = [c0, c1, c2]) :
  W.cell? ⟨g, i * 3, none⟩ = some c0 /\ W.cell? ⟨g, i * 3 + 1, none⟩ = some c1 /\ W.cell? ⟨g, i * 3 + 2, none⟩ = some c2 := by
 have hb : ∀ c, c < 3 -> W.cell? ⟨g, i * 3 + c, none⟩ = (encF l[i])[c]? := fun c hc => by rw [(h.cellAt (i * 3 + c) (by omega)).1, flat3 l i hi c hc]
 rw [hx] at hb
 exact ⟨hb 0 (by omega), hb 1 (by omega), hb 2 (by omega)⟩
theorem set3 (P : List Value) (n : Nat) (hn : P.length = n) (a0 a1 a2 b0 b1 b2 : Value) : (((P ++ [a0, a1, a2]).set n b0).set (n + 1) b1).set (n + 2) b2 = P ++ [b0, b1, b2] := by
 subst hn
 simp only [List.set_append_right _ _ (Nat.le_refl _), List.set_append_right _ _ (Nat.le_add_right _ _), Nat.sub_self, Nat.add_sub_cancel_left, List.set_cons_zero, List.set_cons_succ]
theorem rs_kept3 {w wr wa wz : World} {e : TypeId} {n : Nat} {xs : List Value} {vs vo : Value} (rs : Row (Own w) e 3 vs n xs wr) (hb : Below wr.heap.size wr wa) (hgr : wa.grownBy wz vo.ownBlock) (hro : ∀ k, vo.ownBlock = some k -> ROut w vs k) : Row (Own w) e 3 vs n xs wz :=
 rs.kept fun g c t f hv hg => by
  have hl := (Array.getElem?_eq_some_iff.1 hg).1
  rw [hgr.block g (by have := hb.size; omega) (fun e => (hro g e.symm).2 hv), hb.block g hl]; exact hg
theorem rs_set3 {w W : World} {e : TypeId} {n g cap l b o : Nat} {xs : List Value} {u : Value} (rs : Row (Own w) e 3 (.slice (some ⟨g, 0, none⟩) l cap) n xs W) (hne : g ≠ b) : Row (Own w) e 3 (.slice (some ⟨g, 0, none⟩) l cap) n xs (W.setCell ⟨b, o, none⟩ u) :=
 rs.kept fun g' c t f hv hg => by
  have h : g = g' := by simpa [Value.ownBlock] using hv
  exact (Below.heap_setCell _ _ _ _ (by show g' ≠ b; omega)).trans hg
theorem rowF_grd {w : World} {R : Nat -> Prop} {e : TypeId} {v : Value} {l : List (ElF w)} {W : World} (h : Row R e 3 v l.length (l.flatMap encF) W) : GRd 3 v (l.map encF) W := Row.grd (by rw [List.length_map, <- List.flatMap_def]; exact h) (fun c hc => by
 obtain ⟨x, _, rfl⟩ := List.mem_map.1 hc
 exact ⟨encF_len x, encF_one x⟩)
def FewR {w : World} (l : List (ElF w)) (w0 : World) (e : Ending) (w' : World) : Prop :=
 ∃ (v' : Value) (l' : List (ElF w)), e = .returned v' /\ GRd 3 v' (l'.map encF) w' /\ plF l' = Ck.few (plF (Srt.srt (Fl.ltC cfF) l)) /\ l'.length <= l.length /\ (∀ x ∈ l', x ∈ l) /\ Below w0.heap.size w0 w'
theorem eql_nil_fl (w : World) (o : Option Addr) (l c : Nat) : (binOp .eql 79 (.slice o l c) (.slice none 0 0)).run Tryz.prog w = .ok (.bool o.isNone) w := Lib.run_eql_slice_nil w _ _ o l c 0 0 Tryz.underlying79
attribute [local go_sem] eql_nil_fl
theorem row_emptyFl (w : World) : Row (Own w) 94 3 (.slice (some ⟨w.heap.size, 0, none⟩) 0 0) 0 [] (w.alloc (.cells #[] 94)) :=
 ⟨World.ownsRow_lit w #[] 0 (Nat.zero_le _) (by unfold maxLen; omega) rfl, fun g hg => by cases hg; exact Nat.le_refl _⟩
set_option maxHeartbeats 1000000 in
theorem cloneFl_any {w0 : World} (v : Value) (l : List (ElF w0)) (w : World) (hv : GRd 3 v (l.map encF) w) (hn : l.length <= 10000) :
  Calls Tryz.prog 158 #[v] w fun e w' => ∃ v', e = .returned v' /\ Row (Own w) 94 3 v' l.length (l.flatMap encF) w' /\ Below w.heap.size w w' := by
 obtain ⟨o, cap, h0, h1, h2, h3, _⟩ := id hv
 rw [List.length_map] at h0 h1
 subst h0
 cases o with
 | none =>
  obtain rfl : cap = 0 := h3 rfl
  have hl : l = [] := List.length_eq_zero_iff.1 (by omega)
  subst hl
  clear hv
  go_enter Tryz.func158, Tryz.ntmps158
  go_wp2_with fail
  go_ret
  exact ⟨_, rfl, Row.nil _ _ _ _, Below.refl _ _⟩
 | some a =>
  have HV := Lib.hid hv
  clear hv h3
  refine (callsIn_wide (n := 0)).1 ?_
  refine callsIn_of_wp Tryz.func158 rfl trivial ?_ rfl
  simp only [Tryz.ntmps158, List.size_toArray, List.length_cons, List.length_nil, Nat.reduceAdd, Nat.reduceSub, Array.replicate_succ, Array.replicate_zero, List.push_toArray, List.append_toArray, List.nil_append, List.cons_append]
  gi_wp2_with (gi_at_builtin; refine append_g (Own w) 94 _ 3 40 info_flaw rfl (by decide) rfl _ _ _ Tryz.underlying79 rfl _ 0 [] (by rfl) (row_emptyFl w) _ (l.map encF) (by rfl) (HV.out.below ((Below.refl _ _).alloc (Nat.le_refl _) _)) (by rw [List.length_map]; omega) (by omega) (by simp) ?_; intro v' w' hrow hgr)
  have hrow' : Row (Own w) 94 3 v' l.length (l.flatMap encF) w' := by rw [List.flatMap_def]; simpa using hrow
  go_ret
  exact ⟨_, rfl, hrow', ((Below.refl _ _).alloc (Nat.le_refl _) _).grown hgr (by simp) (fun g hg => by cases hg; exact Nat.le_refl _)⟩
set_option maxHeartbeats 1000000 in
theorem clipFl_any {w0 : World} (v : Value) (l : List (ElF w0)) (w : World) (hv : GRd 3 v (l.map encF) w) (hn : l.length <= 1000000) :
  Calls Tryz.prog 88 #[v] w fun e w' => ∃ v', e = .returned v' /\ GRd 3 v' (l.map encF) w /\ w' = w := by
 obtain ⟨o, cap, h0, h1, h2, h3, h4, h5⟩ := hv
 rw [List.length_map] at h0 h1
 subst h0
 have n1 : (l.length : Int) <= 1000000 := by omega
 have h2' := h2
 unfold maxLen at h2
 have HO := Lib.hid (show o = none -> l.length = 0 from fun h => by have := h3 h; omega)
 have H2 := Lib.hid h2'
 have H4 := Lib.hid h4
 have H5 := Lib.hid h5
 clear h3 h4 h5 h2'
 go_enter Tryz.func88, Tryz.ntmps88
 go_wp2_with fail
 go_ret
 exact ⟨.slice o l.length l.length, rfl, ⟨o, l.length, by rw [List.length_map], by rw [List.length_map]; exact Nat.le_refl _, by have := H2.out; omega, HO.out, H4.out, H5.out⟩, rfl⟩
set_option maxHeartbeats 1000000 in
theorem fewCb_any (ka : Int) (pa : Option Addr) (na qa : Nat) (ta kb : Int) (pb : Option Addr) (nb qb : Nat) (tb : Int) (w : World) : Calls Tryz.prog 134 #[.agg #[.int .i64 ka, .slice pa na qa, .int .i64 ta], .agg #[.int .i64 kb, .slice pb nb qb, .int .i64 tb]] w fun e w' => e = .returned (.agg #[.int .i64 ka, .slice pa na qa, .int .i64 ta]) /\ Below w.heap.size w w' := by
 have mixed : Tryz.prog.follows .mixedOrders = true := by kernel_rfl
 go_enter Tryz.func134, Tryz.ntmps134
 go_wp2_with fail
 refine bodyPost_ret (by simp [results, Tryz.results134, go_sem]; try rfl) rfl ?_
 exact ⟨rfl, (((Below.refl _ _).alloc (Nat.le_refl _) _).alloc (by simp) _).alloc (by simp; omega) _⟩
set_option maxHeartbeats 4000000 in
theorem ckFew_any {w : World} (v : Value) (l : List (ElF w)) (hv : GRd 3 v (l.map encF) w) (hn : l.length <= 1000) :
  Calls Tryz.prog 133 #[v, .func (.func 44) #[] #[], .func (.func 134) #[] #[]] w (FewR l w) := by
 have HV := Lib.hid hv
 have nz : (l.length : Int) <= 1000 := by omega
 have HN := Lib.hid hn
 clear hv hn
 refine (callsIn_wide (n := 0)).1 ?_
 refine callsIn_of_wp Tryz.func133 rfl trivial ?_ rfl
 simp only [Tryz.ntmps133, List.size_toArray, List.length_cons, List.length_nil, Nat.reduceAdd, Nat.reduceSub, Array.replicate_succ, Array.replicate_zero, List.push_toArray, List.append_toArray, List.nil_append, List.cons_append]
 gi_wp2_with (gi_at_call 158; refine (callsIn_wide.2 (cloneFl_any _ _ _ HV.out (by have := HN.out; omega))).mono ?_; rintro e w1 ⟨vs, rfl, r1, b1⟩)
 have hsort := Fl.sortFlaws_any vs l r1 b1 (by have := HN.out; omega)
 have HSO := Lib.hid hsort
 clear hsort r1 b1
 gi_wp2_with (gi_at_call 159; refine (callsIn_wide.2 HSO.out).mono ?_; rintro e w2 ⟨rfl, r2, b2⟩; obtain ⟨sa, scap, rfl⟩ := r2.form)
 obtain ⟨s, hs⟩ : ∃ s, Srt.srt (Fl.ltC (cfF (w := w))) l = s := ⟨_, rfl⟩
 have hsl : s.length = l.length := by rw [<- hs]; exact Srt.srt_len l
 have HMEM : Hid (∀ y ∈ s, y ∈ l) := fun y hy => by rw [<- hs] at hy; exact ((Srt.srt_st (Fl.cfF_ord w) l).2.mem (Fl.cfF_ord w)).1 hy
 rw [hs] at r2
 have HS := Lib.hid hs
 have HSL := Lib.hid hsl
 clear hs HSO
 gi_loopw [7, 18] (fun vo vi wr => ∃ (i : Nat) (os : List (ElF w)), vi = .int .i64 i /\ Hid (i <= l.length /\ os.length <= i /\ plF os = (plF (s.take i)).foldl Ck.addF [] /\ ∀ x ∈ os, x ∈ s) /\ Row (ROut w (.slice sa l.length scap)) 94 3 vo os.length (os.flatMap encF) wr /\ Row (Own w) 94 3 (.slice sa l.length scap) l.length (s.flatMap encF) wr /\ Below w.heap.size w wr) (fun _ vi _ => l.length - (intOf vi).toNat)
 case atStart => exact ⟨0, [], rfl, ⟨by omega, by simp, rfl, by simp⟩, Row.nil _ _ _ _, r2, b2⟩
 case round =>
  clear r2 b2
  obtain ⟨i, os, rfl, HI, ro, rs, hb⟩ := hrel
  by_cases hlt : i < l.length
  ·have hltz : (i : Int) < (l.length : Int) := by omega
   have hls : i < s.length := by rw [HSL.out]; exact hlt
   obtain ⟨x, hx⟩ : ∃ x, s[i] = x := ⟨_, rfl⟩
   obtain ⟨p0, n0, q0, ex, _⟩ := x.cells
   have hx' : s[i]? = some x := by rw [List.getElem?_eq_getElem hls, hx]
   have HX := Lib.hid (And.intro hx' ex)
   obtain ⟨g, hg⟩ : ∃ g, sa = some ⟨g, 0, none⟩ := by
    obtain ⟨⟨_, ho⟩, _⟩ := rs
    rcases ho with ⟨h0, h1⟩ | ⟨g, cap, cur, h0, _⟩
    ·omega
    ·cases h0; exact ⟨g, rfl⟩
   subst hg
   obtain ⟨e0, e1, e2⟩ := Row.elF (l := s) (by rw [HSL.out]; exact rs) i hls (by rw [hx]; exact ex)
   have RS := Lib.hid rs
   have RO := Lib.hid ro
   have HB := Lib.hid hb
   obtain ⟨oa, ocap, rfl⟩ := ro.form
   have HNX : Hid (plF (s.take (i + 1)) = plF (s.take i) ++ [x.1.2]) := by
    show _ = _
    have : s.take (i + 1) = s.take i ++ [x] := by rw [List.take_add_one, hx']; rfl
    rw [this]; simp [plF]
   have hgl : g < wr.heap.size := (rs.1.lt g rfl).2
   clear hx hx' ex rs ro hb hlt hls
   rcases List.eq_nil_or_concat os with rfl | ⟨o, y, rfl⟩
   ·gi_wp2_with fail
    refine drawnH [] (fun _ => True) 13 rfl (by kernel_rfl) ?_
    intro w' hw'
    have hbx : Bx3 wr.heap.size (.int .i64 x.1.2.kind) (.slice p0 n0 q0) (.int .i64 x.1.2.type) w' := by
     subst hw'; exact Bx3.of (World.alloc_heap_new wr _)
    have hb1 : Below wr.heap.size wr w' := by subst hw'; exact ((Below.refl _ _).alloc (Nat.le_refl _) _).drew
    clear hw'
    obtain ⟨c0, c1, c2⟩ := hbx
    refine tP 0 ?qv0 (fun w1 _ => ?qy0) ?_
    case qy0 => go_simp; try rfl
    refine tP 1 ?qv1 (fun w1 _ => ?qy1) ?_
    case qy1 => go_simp; try rfl
    refine tP 2 ?qv2 (fun w1 _ => ?qy2) ?_
    case qy2 => go_simp; try rfl
    simp only [Act.put, List.setIfInBounds_toArray, List.set_cons_succ, List.set_cons_zero]
    refine tV 3 ?_
    refine tV 4 ?_
    refine tV 5 ?_
    refine tV 6 ?_
    simp only [Act.put, List.setIfInBounds_toArray, List.set_cons_succ, List.set_cons_zero]
    refine tV 7 ?_
    refine tV 8 ?_
    refine tV 9 ?_
    simp only [Act.put, List.setIfInBounds_toArray, List.set_cons_succ, List.set_cons_zero]
    refine tV 10 ?_
    refine tV 11 ?_
    simp only [Act.put, List.setIfInBounds_toArray, List.set_cons_succ, List.set_cons_zero]
    refine tP 12 ?qv12 (fun w1 _ => ?qy12) ?_
    case qy12 => go_simp; try rfl
    simp only [Act.put, List.setIfInBounds_toArray, List.set_cons_succ, List.set_cons_zero]
    refine doneH (by kernel_rfl) ?_
    have hb2 := below5 HB.out hb1
    have HB2 := Lib.hid hb2
    have HB1 := Lib.hid hb1
    clear hb1 hb2
    have RO2 : Hid (Row (ROut w (.slice (some ⟨g, 0, none⟩) l.length scap)) 94 3 (.slice oa 0 ocap) 0 [] (w'.alloc (.cells #[.int .i64 x.1.2.kind, .slice p0 n0 q0, .int .i64 x.1.2.type] 94))) := (Row.below RO.out HB1.out).alloc _
    have HRR : Hid (∀ k, w'.heap.size <= k -> ROut w (.slice (some ⟨g, 0, none⟩) l.length scap) k) := fun k hk => ⟨by have := HB2.out.size; omega, fun e => absurd (show g = k by simpa [Value.ownBlock] using e) (by have := HB1.out.size; omega)⟩
    gi_wp2_with (gi_at_builtin; refine append_g (ROut w (.slice (some ⟨g, 0, none⟩) l.length scap)) 94 _ 3 40 info_flaw rfl (by decide) rfl _ _ _ Tryz.underlying79 rfl _ 0 [] (by rfl) RO2.out _ [[.int .i64 x.1.2.kind, .slice p0 n0 q0, .int .i64 x.1.2.type]] (by rfl) (GRd.new [.int .i64 x.1.2.kind, .slice p0 n0 q0, .int .i64 x.1.2.type] rfl (by simp [Value.oneCell']) _ _) (by simp) (by omega) (HRR.out _ (by simp)) ?_; intro v' wz hrow hgr)
    have hbz := (HB2.out.alloc HB2.out.size _).grown hgr (by have := HB2.out.size; simp; omega) (fun k hk => (RO.out.2 k hk).1)
    have hrz := rs_kept3 RS.out (HB1.out.alloc HB1.out.size _) hgr (fun k hk => RO.out.2 k hk)
    have hrow' : Row (ROut w (.slice (some ⟨g, 0, none⟩) l.length scap)) 94 3 v' [x].length ([x].flatMap encF) wz := by
     have h := hrow
     simpa [HX.out.2] using h
    have HE := Lib.hid (And.intro hbz (And.intro hrz hrow'))
    clear hbz hrz hrow hrow' hgr
    gi_wp2_with fail
    refine ⟨⟨i + 1, [x], by go_num, ?_, HE.out.2.2, HE.out.2.1, HE.out.1⟩, by simp [intOf]; omega⟩
    obtain ⟨h1, h2, h3, h4⟩ := HI.out
    refine ⟨by omega, by simp, by rw [HNX.out, List.foldl_append, <- h3]; rfl, fun z hz => ?_⟩
    rw [List.mem_singleton] at hz; subst hz; exact List.mem_of_getElem? HX.out.1
   ·rw [List.concat_eq_append] at HI RO ⊢
    obtain ⟨r0, k0, t0, ey, _⟩ := y.cells
    obtain ⟨m1, hm1⟩ : ∃ m1, m1 = (o ++ [y]).length := ⟨_, rfl⟩
    obtain ⟨go, hgo⟩ : ∃ go, oa = some ⟨go, 0, none⟩ := by
     obtain ⟨⟨_, ho⟩, _⟩ := RO.out
     rcases ho with ⟨h0, h1⟩ | ⟨g, cap, cur, h0, _⟩
     ·simp at h1
     ·cases h0; exact ⟨g, rfl⟩
    subst hgo
    obtain ⟨f0, f1, f2⟩ := Row.elF RO.out o.length (by simp) (by rw [List.getElem_append_right (Nat.le_refl _)]; simpa using ey)
    obtain ⟨m, hm⟩ : ∃ m, m = o.length := ⟨_, rfl⟩
    rw [<- hm] at f0 f1 f2
    have hmm : m1 = m + 1 := by rw [hm1, hm]; simp
    have HM := Lib.hid (And.intro hm (And.intro hm1 (And.intro hmm ey)))
    have hz1 : (m1 : Int) <= 1000 := by have h1 := HI.out; rw [<- hm1] at h1; omega
    have w7 : IntKind.i64.wrap ((m1 : Int) - 1) = (m : Int) := by rw [IntWalk.i64_in _ (by omega)]; omega
    have hp1 : (0 : Int) < (m1 : Int) := by omega
    have hp2 : decide (0 < m1) = true := decide_eq_true (by omega)
    have hp3 : (m : Int) < (m1 : Int) := by omega
    have hgol : go < wr.heap.size := (RO.out.1.lt go rfl).2
    rw [<- hm1]
    clear hm hm1 hmm ey
    gi_wp2_with fail
    refine drawnH [8, 9, 11, 12] (fun w' => Bx3 wr.heap.size (.int .i64 x.1.2.kind) (.slice p0 n0 q0) (.int .i64 x.1.2.type) w' /\ w'.cell? ⟨go, m * 3, none⟩ = some (.int .i64 y.1.2.kind) /\ w'.cell? ⟨go, m * 3 + 1, none⟩ = some (.slice r0 k0 t0) /\ w'.cell? ⟨go, m * 3 + 2, none⟩ = some (.int .i64 y.1.2.type)) 13 rfl (by kernel_rfl) ?_
    intro w' hw'
    have hb1 : Below wr.heap.size wr w' := by subst hw'; exact ((Below.refl _ _).alloc (Nat.le_refl _) _).drew
    have hy : ∀ c, w'.cell? ⟨go, c, none⟩ = wr.cell? ⟨go, c, none⟩ := fun c => hb1.cell (p := ⟨go, c, none⟩) hgol
    have hS : Bx3 wr.heap.size (.int .i64 x.1.2.kind) (.slice p0 n0 q0) (.int .i64 x.1.2.type) w' /\ w'.cell? ⟨go, m * 3, none⟩ = some (.int .i64 y.1.2.kind) /\ w'.cell? ⟨go, m * 3 + 1, none⟩ = some (.slice r0 k0 t0) /\ w'.cell? ⟨go, m * 3 + 2, none⟩ = some (.int .i64 y.1.2.type) := by
     refine ⟨by subst hw'; exact Bx3.of (World.alloc_heap_new wr _), ?_⟩
     simp only [hy]
     exact ⟨f0, f1, f2⟩
    clear hw' hy f0 f1 f2 e0 e1 e2
    have hb2 := below5 HB.out hb1
    refine tP 0 ?qav0 (fun w1 _ => ?qay0) ?_
    case qay0 => go_simp; try rfl
    refine tP 1 ?qav1 (fun w1 _ => ?qay1) ?_
    case qay1 => go_simp; try rfl
    refine tP 2 ?qav2 (fun w1 _ => ?qay2) ?_
    case qay2 => go_simp; try rfl
    refine tP 3 ?qav3 (fun w1 _ => ?qay3) ?_
    case qay3 => go_simp; try rfl
    refine tP 4 ?qav4 (fun w1 _ => ?qay4) ?_
    case qay4 => go_simp; try rfl
    refine tP 5 ?qav5 (fun w1 _ => ?qay5) ?_
    case qay5 => go_simp; try rfl
    refine tP 6 ?qav6 (fun w1 _ => ?qay6) ?_
    case qay6 => go_simp; try rfl
    refine tP 7 ?qav7 (fun w1 _ => ?qay7) ?_
    case qay7 => go_simp; try rfl
    simp only [Act.put, List.setIfInBounds_toArray, List.set_cons_succ, List.set_cons_zero]
    refine tH 8 ?qav8 hS (fun w1 ⟨⟨c0, c1, c2⟩, d0, d1, d2⟩ => ?qay8) ?_
    case qay8 => go_simp; try rfl
    refine tH 9 ?qav9 hS (fun w1 ⟨⟨c0, c1, c2⟩, d0, d1, d2⟩ => ?qay9) ?_
    case qay9 => go_simp; try rfl
    simp only [Act.put, List.setIfInBounds_toArray, List.set_cons_succ, List.set_cons_zero]
    obtain ⟨z, hz⟩ : ∃ z, Ck.cmp y.1.2 x.1.2 = z := ⟨_, rfl⟩
    have HZ := Lib.hid hz
    have HRX : Hid (FlRd [.int .i64 x.1.2.kind, .slice p0 n0 q0, .int .i64 x.1.2.type] x.1.2 w) := by have h := x.2.1; rw [show x.1.1 = _ from HX.out.2] at h; exact h
    have HRY : Hid (FlRd [.int .i64 y.1.2.kind, .slice r0 k0 t0, .int .i64 y.1.2.type] y.1.2 w) := by have h := y.2.1; rw [show y.1.1 = _ from HM.out.2.2.2] at h; exact h
    clear hz
    refine oneH 10 (by rfl) (by kernel_rfl) (fun K hK => ?_)
    gi_wp2_with (gi_at_call 44; refine (callsIn_wide.2 (ckCompare_any [.int .i64 y.1.2.kind, .slice r0 k0 t0, .int .i64 y.1.2.type] [.int .i64 x.1.2.kind, .slice p0 n0 q0, .int .i64 x.1.2.type] y.1.2 x.1.2 _ (HRY.out.below hb2) (HRX.out.below hb2) y.2.2 x.2.2)).mono ?_; rintro e w3 ⟨rfl, b3⟩; rw [HZ.out])
    have hy3 : ∀ c, w3.cell? ⟨go, c, none⟩ = w'.cell? ⟨go, c, none⟩ := fun c => b3.cell (p := ⟨go, c, none⟩) (by have := hb1.size; show go < _; omega)
    replace hS := And.intro (hS.1.below b3) hS.2
    simp only [<- hy3] at hS
    have hb3 := below5 hb2 b3
    have hbr := below5 hb1 b3
    clear hy3 hb1 hb2 b3
    refine hK _ _ (fun _ => hS) ?_
    clear hK K
    have HB3 := Lib.hid hb3
    have HBR := Lib.hid hbr
    have RO3 : Hid (Row (ROut w (.slice (some ⟨g, 0, none⟩) l.length scap)) 94 3 (.slice (some ⟨go, 0, none⟩) m1 ocap) m1 ((o ++ [y]).flatMap encF) w3) := by
     have h := Row.below RO.out HBR.out
     rw [<- HM.out.2.1] at h; exact h
    have HRR : Hid (∀ k, w3.heap.size <= k -> ROut w (.slice (some ⟨g, 0, none⟩) l.length scap) k) := fun k hk => ⟨by have := HB3.out.size; omega, fun e => absurd (show g = k by simpa [Value.ownBlock] using e) (by have := HBR.out.size; omega)⟩
    clear hb3 hbr
    by_cases h0 : z = 0
    ·subst h0
     refine tH 11 ?qev11 hS (fun w1 ⟨⟨c0, c1, c2⟩, d0, d1, d2⟩ => ?qey11) ?_
     case qey11 => go_simp; try rfl
     refine tH 12 ?qev12 hS (fun w1 ⟨⟨c0, c1, c2⟩, d0, d1, d2⟩ => ?qey12) ?_
     case qey12 => go_simp; try rfl
     simp only [Act.put, List.setIfInBounds_toArray, List.set_cons_succ, List.set_cons_zero]
     refine doneH (by kernel_rfl) ?_
     gi_wp2_with fail
     refine drawnH [8, 9] (fun w' => Bx3 wr.heap.size (.int .i64 x.1.2.kind) (.slice p0 n0 q0) (.int .i64 x.1.2.type) w' /\ w'.cell? ⟨go, m * 3, none⟩ = some (.int .i64 y.1.2.kind) /\ w'.cell? ⟨go, m * 3 + 1, none⟩ = some (.slice r0 k0 t0) /\ w'.cell? ⟨go, m * 3 + 2, none⟩ = some (.int .i64 y.1.2.type)) 13 rfl (by kernel_rfl) ?_
     intro w4 hw4
     replace hS : Bx3 wr.heap.size (.int .i64 x.1.2.kind) (.slice p0 n0 q0) (.int .i64 x.1.2.type) w4 /\ w4.cell? ⟨go, m * 3, none⟩ = some (.int .i64 y.1.2.kind) /\ w4.cell? ⟨go, m * 3 + 1, none⟩ = some (.slice r0 k0 t0) /\ w4.cell? ⟨go, m * 3 + 2, none⟩ = some (.int .i64 y.1.2.type) := by subst hw4; exact hS
     have hb4 : Below w3.heap.size w3 w4 := by subst hw4; exact (Below.refl _ _).drew
     clear hw4
     refine tP 0 ?qcv0 (fun w1 _ => ?qcy0) ?_
     case qcy0 => go_simp; try rfl
     refine tP 1 ?qcv1 (fun w1 _ => ?qcy1) ?_
     case qcy1 => go_simp; try rfl
     refine tP 2 ?qcv2 (fun w1 _ => ?qcy2) ?_
     case qcy2 => go_simp; try rfl
     refine tP 3 ?qcv3 (fun w1 _ => ?qcy3) ?_
     case qcy3 => go_simp; try rfl
     refine tP 4 ?qcv4 (fun w1 _ => ?qcy4) ?_
     case qcy4 => go_simp; try rfl
     refine tP 5 ?qcv5 (fun w1 _ => ?qcy5) ?_
     case qcy5 => go_simp; try rfl
     refine tP 6 ?qcv6 (fun w1 _ => ?qcy6) ?_
     case qcy6 => go_simp; try rfl
     refine tP 7 ?qcv7 (fun w1 _ => ?qcy7) ?_
     case qcy7 => go_simp; try rfl
     simp only [Act.put, List.setIfInBounds_toArray, List.set_cons_succ, List.set_cons_zero]
     refine tH 8 ?qcv8 hS (fun w1 ⟨⟨c0, c1, c2⟩, d0, d1, d2⟩ => ?qcy8) ?_
     case qcy8 => go_simp; try rfl
     refine tH 9 ?qcv9 hS (fun w1 ⟨⟨c0, c1, c2⟩, d0, d1, d2⟩ => ?qcy9) ?_
     case qcy9 => go_simp; try rfl
     simp only [Act.put, List.setIfInBounds_toArray, List.set_cons_succ, List.set_cons_zero]
     refine oneH 10 (by rfl) (by kernel_rfl) (fun K hK => ?_)
     gi_wp2_with (gi_at_call 134; refine (callsIn_wide.2 (fewCb_any _ _ _ _ _ _ _ _ _ _ _)).mono ?_; rintro e w5 ⟨rfl, b5⟩)
     refine hK _ _ (fun h => absurd h (by decide)) ?_
     clear hK K
     have hb5 := below5 hb4 b5
     have RO5 : Hid (Row (ROut w (.slice (some ⟨g, 0, none⟩) l.length scap)) 94 3 (.slice (some ⟨go, 0, none⟩) m1 ocap) m1 ((o ++ [y]).flatMap encF) w5) := Row.below RO3.out hb5
     have HB5 := Lib.hid (below5 HB3.out hb5)
     have HBR5 := Lib.hid (below5 HBR.out hb5)
     obtain ⟨g0, g1, g2⟩ := hS.2
     have hy5 : ∀ c, w5.cell? ⟨go, c, none⟩ = w4.cell? ⟨go, c, none⟩ := fun c => b5.cell (p := ⟨go, c, none⟩) (by have := HBR.out.size; have := hb4.size; show go < _; omega)
     simp only [<- hy5] at g0 g1 g2
     have hfz : ∀ c, w5.frozen? ⟨go, c, none⟩ = false := by
      obtain ⟨⟨_, ho⟩, _⟩ := RO5.out
      rcases ho with ⟨h0, _⟩ | ⟨g', cap', cur, h0, _, hg, _⟩
      ·cases h0
      ·cases h0; intro c; simp [World.frozen?, hg]
     have u0 := hfz (m * 3)
     have u1 := hfz (m * 3 + 1)
     have u2 := hfz (m * 3 + 2)
     clear hy5 hS hb4 b5 hb5 hfz
     refine tP 11 ?qdv11 (fun w1 _ => ?qdy11) ?_
     case qdy11 => go_simp; try rfl
     refine oneH 12 (by rfl) (by kernel_rfl) (fun K hK => ?_)
     gi_wp2_with fail
     have hgo : w.heap.size <= go /\ g ≠ go := by
      have h := RO.out.2 go rfl
      exact ⟨h.1, fun e => h.2 (by rw [e]; rfl)⟩
     have hfl : (o ++ [y]).flatMap encF = o.flatMap encF ++ [.int .i64 y.1.2.kind, .slice r0 k0 t0, .int .i64 y.1.2.type] := by
      rw [List.flatMap_append, List.flatMap_cons, List.flatMap_nil, List.append_nil, HM.out.2.2.2]
     have hfn : (o.flatMap (encF (w := w))).length = m * 3 := by rw [flat_len encF 3 encF_len, <- HM.out.1]
     have hro := RO5.out
     rw [hfl] at hro
     have hro3 := ((hro.set1 (m * 3) (.int .i64 y.1.2.kind)).set1 (m * 3 + 1) (.slice r0 k0 t0)).set1 (m * 3 + 2) (.int .i64 y.1.2.type)
     rw [set3 _ _ hfn, <- hfl] at hro3
     have hrs3 : Row (Own w) 94 3 (.slice (some ⟨g, 0, none⟩) l.length scap) l.length (s.flatMap encF) (((w5.setCell ⟨go, m * 3, none⟩ (.int .i64 y.1.2.kind)).setCell ⟨go, m * 3 + 1, none⟩ (.slice r0 k0 t0)).setCell ⟨go, m * 3 + 2, none⟩ (.int .i64 y.1.2.type)) := rs_set3 (rs_set3 (rs_set3 (Row.below RS.out HBR5.out) hgo.2) hgo.2) hgo.2
     have hb3 : Below w.heap.size w (((w5.setCell ⟨go, m * 3, none⟩ (.int .i64 y.1.2.kind)).setCell ⟨go, m * 3 + 1, none⟩ (.slice r0 k0 t0)).setCell ⟨go, m * 3 + 2, none⟩ (.int .i64 y.1.2.type)) := ((HB5.out.setCell hgo.1 _).setCell hgo.1 _).setCell hgo.1 _
     have HE := Lib.hid (And.intro hb3 (And.intro hrs3 hro3))
     clear hro hro3 hrs3 hb3 hfl hfn
     generalize ((w5.setCell ⟨go, m * 3, none⟩ (.int .i64 y.1.2.kind)).setCell ⟨go, m * 3 + 1, none⟩ (.slice r0 k0 t0)).setCell ⟨go, m * 3 + 2, none⟩ (.int .i64 y.1.2.type) = wz at HE ⊢
     refine hK _ _ (fun h => absurd h (by decide)) ?_
     clear hK K g0 g1 g2 u0 u1 u2
     refine doneH (by kernel_rfl) ?_
     gi_wp2_with fail
     refine ⟨⟨i + 1, o ++ [y], by go_num, ?_, by rw [<- HM.out.2.1]; exact HE.out.2.2, HE.out.2.1, HE.out.1⟩, by simp [intOf]; omega⟩
     obtain ⟨h1, h2, h3, h4⟩ := HI.out
     refine ⟨by omega, by omega, ?_, h4⟩
     rw [HNX.out, List.foldl_append, <- h3, plF_snoc o y]
     exact (Ck.addF_join _ _ _ HZ.out).symm
    ·have hz1 : (z == 0) = false := by simpa using h0
     have HNZ := Lib.hid h0
     clear h0
     refine tH 11 ?qbv11 hS (fun w1 ⟨⟨c0, c1, c2⟩, d0, d1, d2⟩ => ?qby11) ?_
     case qby11 => go_simp; try rfl
     refine tH 12 ?qbv12 hS (fun w1 ⟨⟨c0, c1, c2⟩, d0, d1, d2⟩ => ?qby12) ?_
     case qby12 => go_simp; try rfl
     simp only [Act.put, List.setIfInBounds_toArray, List.set_cons_succ, List.set_cons_zero]
     refine doneH (by kernel_rfl) ?_
     obtain ⟨⟨c0, c1, c2⟩, _⟩ := hS
     gi_wp2_with (gi_at_builtin; refine append_g (ROut w (.slice (some ⟨g, 0, none⟩) l.length scap)) 94 _ 3 40 info_flaw rfl (by decide) rfl _ _ _ Tryz.underlying79 rfl _ m1 ((o ++ [y]).map encF) (by rfl) (RO3.out.alloc _) _ [[.int .i64 x.1.2.kind, .slice p0 n0 q0, .int .i64 x.1.2.type]] (by rfl) (GRd.new [.int .i64 x.1.2.kind, .slice p0 n0 q0, .int .i64 x.1.2.type] rfl (by simp [Value.oneCell']) _ _) (by have h1 := HI.out; have h2 := HM.out; simp only [List.length_cons, List.length_nil]; omega) (by omega) (HRR.out _ (by simp)) ?_; intro v' wz hrow hgr)
     have hbz := (HB3.out.alloc HB3.out.size _).grown hgr (by have := HB3.out.size; simp; omega) (fun k hk => (RO.out.2 k hk).1)
     have hrz := rs_kept3 RS.out (HBR.out.alloc HBR.out.size _) hgr (fun k hk => RO.out.2 k hk)
     have hrow' : Row (ROut w (.slice (some ⟨g, 0, none⟩) l.length scap)) 94 3 v' ((o ++ [y]) ++ [x]).length (((o ++ [y]) ++ [x]).flatMap encF) wz := by
      have h := hrow
      rw [HM.out.2.1] at h
      simpa [List.flatMap_def, HX.out.2] using h
     have HE := Lib.hid (And.intro hbz (And.intro hrz hrow'))
     clear hbz hrz hrow hrow' hgr
     gi_wp2_with fail
     refine ⟨⟨i + 1, (o ++ [y]) ++ [x], by go_num, ?_, HE.out.2.2, HE.out.2.1, HE.out.1⟩, by simp [intOf]; omega⟩
     obtain ⟨h1, h2, h3, h4⟩ := HI.out
     refine ⟨by omega, by rw [List.length_append]; simp only [List.length_cons, List.length_nil]; omega, ?_, fun z hz => (List.mem_append.1 hz).elim (fun hz => h4 z hz) (fun hz => by rw [List.mem_singleton] at hz; subst hz; exact List.mem_of_getElem? HX.out.1)⟩
     rw [HNX.out, List.foldl_append, <- h3, plF_snoc (o ++ [y]) x, plF_snoc o y]
     exact (Ck.addF_more _ _ _ (by rw [HZ.out]; exact HNZ.out)).symm
  ·have hltz : ¬ ((i : Int) < (l.length : Int)) := by omega
   have HF : Hid (plF os = Ck.few (plF s) /\ os.length <= l.length /\ ∀ x ∈ os, x ∈ l) := by
    obtain ⟨h1, h2, h3, h4⟩ := HI.out
    have : i = s.length := by have := HSL.out; omega
    refine ⟨?_, by omega, fun x hx => HMEM.out x (h4 x hx)⟩
    rw [h3, this, List.take_length, Ck.few_foldl]
   have RO := Lib.hid (rowF_grd ro)
   have HB := Lib.hid hb
   have ho : os.length <= 1000 := by have := HI.out; omega
   clear ro rs hb hlt
   gi_wp2_with (gi_at_call 88; refine (callsIn_wide.2 (clipFl_any _ _ _ RO.out (by omega))).mono ?_; rintro e w3 ⟨vc, rfl, rc, rfl⟩)
   go_ret
   exact ⟨_, os, rfl, rc, by rw [HS.out]; exact HF.out.1, HF.out.2.1, HF.out.2.2, HB.out⟩
set_option maxHeartbeats 1000000 in
theorem ckFewX_any {w : World} (v : Value) (l : List (ElF w)) (hv : GRd 3 v (l.map encF) w) (hn : l.length <= 1000) :
  Calls Tryz.prog 89 #[v, .func (.func 44) #[] #[]] w (FewR l w) := by
 have HC := Lib.hid (ckFew_any v l hv hn)
 clear hv
 refine (callsIn_wide (n := 0)).1 ?_
 refine callsIn_of_wp Tryz.func89 rfl trivial ?_ rfl
 simp only [Tryz.ntmps89, List.size_toArray, List.length_cons, List.length_nil, Nat.reduceAdd, Nat.reduceSub, Array.replicate_succ, Array.replicate_zero, List.push_toArray, List.append_toArray, List.nil_append, List.cons_append]
 gi_wp2_with fail
 refine (callsIn_wide.2 HC.out).mono ?_
 rintro e w1 ⟨v', l', rfl, h1, h2, h3, h4, h5⟩
 have HH := Lib.hid (And.intro h1 (And.intro h2 (And.intro h3 (And.intro h4 h5))))
 clear h1 h2 h3 h4 h5
 gi_wp2_with fail
 go_ret
 exact ⟨_, l', rfl, HH.out.1, HH.out.2.1, HH.out.2.2.1, HH.out.2.2.2.1, HH.out.2.2.2.2⟩
end Go.Proofs.YtneghhbclefmoaaGreat
end
