/- Records as the document's; which of two stands first, by the document. -/
import Derived.Test.YtgmbefolgppmdaaGreatDoorKSgB
import Derived.Test.YtgmbefolgppmdaaGreatDoorKZnM
import Derived.Test.YtgmbefolgppmdaaGreatDoorKReg
namespace Go.Proofs.YtgmbefolgppmdaaGreatDoor
open Go.RowKit Go.Shelf Go.Sort
set_option maxRecDepth 100000
def OfR7 (w : World) (cs : List Value) (r : Rc.PRec) (W : World) : Prop := ∃ vo ds, cs = vo :: .int .u32 (r.ttl : Int) :: ds /\ Rd vo r.owner w /\ OfD w ds r W
theorem OfR7.rec {w : World} {cs : List Value} {r : Rc.PRec} {W : World} (h : OfR7 w cs r W) (hb : Below w.heap.size w W) : RecRd cs r W := by
 obtain ⟨vo, ds, h1, h2, h3⟩ := h
 exact ⟨vo, ds, h1, h2.below hb, h3.dat hb⟩
theorem OfR7.below {w : World} {cs : List Value} {r : Rc.PRec} {W W' : World} (h : OfR7 w cs r W) (hb : Below W.heap.size W W') : OfR7 w cs r W' := by
 obtain ⟨vo, ds, h1, h2, h3⟩ := h
 exact ⟨vo, ds, h1, h2, h3.below hb⟩
theorem OfR7.grown {w : World} {cs : List Value} {r : Rc.PRec} {W W' : World} {row : Option Nat} (h : OfR7 w cs r W) (hg : W.grownBy W' row) (hr : ∀ g, row = some g -> ∃ c t f, W.heap[g]? = some (.cells c t f) /\ t ≠ 22) : OfR7 w cs r W' := by
 obtain ⟨vo, ds, h1, h2, h3⟩ := h
 exact ⟨vo, ds, h1, h2, h3.grown hg hr⟩
def OfAllR {w : World} (l : List (El w)) (w0 : World) (e : Ending) (w' : World) : Prop := ∃ (v' : Value) (l' : List (El w')), e = .returned v' /\ RecsRd v' (l'.map (·.1)) w' /\ plE l' = plE l /\ Below w0.heap.size w0 w'
theorem Rc.cmp_two (a b : Rc.PRec) : Rc.cmp a b = Rc.orI (Nm.cmp a.owner b.owner) (Rc.cmpD a b) := by
 have h : Rc.cmpD a b = Rc.orI (Nm.sgn a.type b.type) (Rc.cmpD a b) := by
  unfold Rc.cmpD Rc.orI
  by_cases h : Nm.sgn a.type b.type = 0 <;> simp [h]
 unfold Rc.cmp
 rw [<- h]
set_option maxHeartbeats 2000000 in
theorem refCompareRec_any (va vb : List Value) (a b : Rc.PRec) (w : World) (ha : RecRd va a w) (hb : RecRd vb b w) (na : RB a) (nb : RB b) :
  Calls Tryz.prog 8 #[.agg va.toArray, .agg vb.toArray] w (Gives (.int .i64 (Rc.cmp a b)) w) := by
 obtain ⟨p0, n0, q0, p1, n1, q1, p2, n2, q2, p3, n3, q3, p4, n4, q4, rfl, ho, hd⟩ := ha.cells
 obtain ⟨r0, k0, t0, r1, k1, t1, r2, k2, t2, r3, k3, t3, r4, k4, t4, rfl, ho', hd'⟩ := hb.cells
 obtain ⟨z, hz⟩ : ∃ z, Nm.cmp a.owner b.owner = z := ⟨_, rfl⟩
 have hct := Rc.cmp_two a b
 rw [hz] at hct
 have HCT := Lib.hid hct
 have HZ := Lib.hid hz
 have HO := Lib.hid ho
 have HO' := Lib.hid ho'
 have HD := Lib.hid hd
 have HD' := Lib.hid hd'
 obtain ⟨W2, hW2⟩ : ∃ W, (w.alloc (.cells #[.slice p0 n0 q0, .int .u32 (a.ttl : Int), .int .i64 a.type, .slice p1 n1 q1, .slice p2 n2 q2, .slice p3 n3 q3, .slice p4 n4 q4] 40)).alloc (.cells #[.slice r0 k0 t0, .int .u32 (b.ttl : Int), .int .i64 b.type, .slice r1 k1 t1, .slice r2 k2 t2, .slice r3 k3 t3, .slice r4 k4 t4] 40) = W := ⟨_, rfl⟩
 have hb2 : Below w.heap.size w W2 := by rw [<- hW2]; exact ((Below.refl _ _).alloc (Nat.le_refl _) _).alloc (by simp) _
 have kk2 : Blk w.heap.size #[.slice p0 n0 q0, .int .u32 (a.ttl : Int), .int .i64 a.type, .slice p1 n1 q1, .slice p2 n2 q2, .slice p3 n3 q3, .slice p4 n4 q4] 40 W2 := by rw [<- hW2]; exact (Blk.new w _ _).alloc _
 have kk3 : Blk (w.heap.size + 1) #[.slice r0 k0 t0, .int .u32 (b.ttl : Int), .int .i64 b.type, .slice r1 k1 t1, .slice r2 k2 t2, .slice r3 k3 t3, .slice r4 k4 t4] 40 W2 := by
  rw [<- hW2]
  have := Blk.new (w.alloc (.cells #[.slice p0 n0 q0, .int .u32 (a.ttl : Int), .int .i64 a.type, .slice p1 n1 q1, .slice p2 n2 q2, .slice p3 n3 q3, .slice p4 n4 q4] 40)) #[.slice r0 k0 t0, .int .u32 (b.ttl : Int), .int .i64 b.type, .slice r1 k1 t1, .slice r2 k2 t2, .slice r3 k3 t3, .slice r4 k4 t4] 40
  rwa [World.size_alloc] at this
 have HB2 := Lib.hid hb2
 have K2 := Lib.hid kk2
 have K3 := Lib.hid kk3
 have HW2 := Lib.hid hW2
 have HC1 := Lib.hid (refCompareN_any _ _ a.owner b.owner W2 (ho.below hb2) (ho'.below hb2) na.owner nb.owner)
 rw [hz] at HC1
 have HC2 := Lib.hid (fun W' (hW : Below W2.heap.size W2 W') => refCompareData_any _ _ a b W' (hd.below (below5 hb2 hW)) (hd'.below (below5 hb2 hW)) na nb)
 clear ha hb ho ho' hd hd' hz hct hW2 hb2 kk2 kk3
 refine (callsIn_wide (n := 0)).1 ?_
 refine callsIn_of_wp Tryz.func8 rfl trivial ?_ rfl
 simp only [Tryz.ntmps8, List.size_toArray, List.length_cons, List.length_nil, Nat.reduceAdd, Nat.reduceSub, Array.replicate_succ, Array.replicate_zero, List.push_toArray, List.append_toArray, List.nil_append, List.cons_append]
 gi_wp2_with fail
 rw [HW2.out]
 (with_reducible refine (callsIn_wide.2 HC1.out).mono ?_)
 rintro e w3 ⟨rfl, b3⟩
 have HB3 := Lib.hid b3
 have e2 : w3.cell? ⟨w.heap.size, 2, none⟩ = some _ := (K2.out.below b3).cell 2
 have e3 : w3.cell? ⟨w.heap.size, 3, none⟩ = some _ := (K2.out.below b3).cell 3
 have e4 : w3.cell? ⟨w.heap.size, 4, none⟩ = some _ := (K2.out.below b3).cell 4
 have e5 : w3.cell? ⟨w.heap.size, 5, none⟩ = some _ := (K2.out.below b3).cell 5
 have e6 : w3.cell? ⟨w.heap.size, 6, none⟩ = some _ := (K2.out.below b3).cell 6
 have f2 : w3.cell? ⟨w.heap.size + 1, 2, none⟩ = some _ := (K3.out.below b3).cell 2
 have f3 : w3.cell? ⟨w.heap.size + 1, 3, none⟩ = some _ := (K3.out.below b3).cell 3
 have f4 : w3.cell? ⟨w.heap.size + 1, 4, none⟩ = some _ := (K3.out.below b3).cell 4
 have f5 : w3.cell? ⟨w.heap.size + 1, 5, none⟩ = some _ := (K3.out.below b3).cell 5
 have f6 : w3.cell? ⟨w.heap.size + 1, 6, none⟩ = some _ := (K3.out.below b3).cell 6
 clear b3
 by_cases h0 : z = 0
 ·subst h0
  gi_wp2_with fail
  (with_reducible refine (callsIn_wide.2 (HC2.out w3 HB3.out)).mono ?_)
  rintro e w4 ⟨rfl, b4⟩
  have HB4 := Lib.hid (below5 HB2.out (below5 HB3.out b4))
  clear b4
  gi_wp2_with fail
  go_ret
  exact ⟨by rw [HCT.out, Rc.orI_right]; rfl, HB4.out⟩
 ·have h1 : (z != 0) = true := by simp [h0]
  gi_wp2_with fail
  go_ret
  exact ⟨by rw [HCT.out, Rc.orI_left h0]; rfl, below5 HB2.out HB3.out⟩
end Go.Proofs.YtgmbefolgppmdaaGreatDoor
