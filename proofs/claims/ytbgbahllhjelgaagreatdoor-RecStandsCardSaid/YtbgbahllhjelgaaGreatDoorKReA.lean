/- Rows of records as the document has them: are two alike; a row of an older world in order. -/
import Derived.Test.YtbgbahllhjelgaaGreatDoorKSgA
import Derived.Test.YtbgbahllhjelgaaGreatDoorKZnO
import Derived.Test.YtbgbahllhjelgaaGreatDoorKCs
import Derived.Test.YtbgbahllhjelgaaGreatDoorKReg
import Derived.Test.YtbgbahllhjelgaaGreatDoorKReP
import Derived.Test.YtbgbahllhjelgaaGreatDoorKTxK
import Derived.Test.YtbgbahllhjelgaaGreatDoorKZnM
section
namespace Go.Proofs.YtbgbahllhjelgaaGreatDoor
open Go.RowKit Go.Shelf Go.Sort
set_option maxRecDepth 100000
def CanR (w0 : World) (L : List Rc.PRec) (e : Ending) (w' : World) : Prop :=
 ∃ (o : Option Addr) (c : Nat) (l' : List (El w0)), e = .returned (.slice o l'.length c) /\ RecsRd (.slice o l'.length c) (l'.map (·.1)) w' /\ plE l' = Rc.canon L /\ l'.length <= L.length /\ Below w0.heap.size w0 w'
theorem canon2_any {w w0 : World} (hb : Below w.heap.size w w0) (v : Value) (l : List (El w)) (hv : RecsRd v (l.map (·.1)) w0) (hn : l.length <= 1000) :
  Calls Tryz.prog 19 #[v] w0 (CanR w0 (plE l)) := by
 refine (canon_any v (l.map (El.up hb)) (by rw [up_fst]; exact hv) (by simpa using hn)).mono ?_
 rintro e w' ⟨v', l', rfl, h1, h2, h3, h4, _⟩
 rw [up_pl] at h2
 obtain ⟨o, c, rfl⟩ : ∃ o cap, v' = .slice o l'.length cap := by obtain ⟨_, o, cap, h, _⟩ := h1; exact ⟨o, cap, by rw [h, List.length_map]⟩
 exact ⟨o, c, l', rfl, h1, h2, by rw [plE_len]; simpa using h3, h4⟩
theorem sameRow2_any {w w0 : World} (hb : Below w.heap.size w w0) (v u : Value) (a b : List (El w)) (hv : RecsRd v (a.map (·.1)) w0) (hu : RecsRd u (b.map (·.1)) w0) (na : a.length <= 1000) (nb : b.length <= 1000) :
  Calls Tryz.prog 22 #[v, u] w0 (Gives (.bool (Rc.sameRow (plE a) (plE b))) w0) := by
 have h := sameRow_any v u (a.map (El.up hb)) (b.map (El.up hb)) (by rw [up_fst]; exact hv) (by rw [up_fst]; exact hu) (by simpa using na) (by simpa using nb)
 rw [up_pl, up_pl] at h
 exact h
set_option maxHeartbeats 4000000 in
theorem refSameRow_any {w w0 : World} (v u : Value) (a b : List (El w)) (hb0 : Below w.heap.size w w0) (hv : RecsRd v (a.map (·.1)) w0) (hu : RecsRd u (b.map (·.1)) w0) (na : a.length <= 1000) :
  Calls Tryz.prog 23 #[v, u] w0 (Gives (.bool (Rc.sameRow (plE a) (plE b))) w0) := by
 obtain ⟨ov, cv, rfl⟩ : ∃ o cap, v = .slice o a.length cap := by obtain ⟨_, o, cap, h, _⟩ := hv; exact ⟨o, cap, by rw [h, List.length_map]⟩
 obtain ⟨ou, cu, rfl⟩ : ∃ o cap, u = .slice o b.length cap := by obtain ⟨_, o, cap, h, _⟩ := hu; exact ⟨o, cap, by rw [h, List.length_map]⟩
 have HV := Lib.hid hv.el
 have HU := Lib.hid hu.el
 have HB0 := Lib.hid hb0
 clear hv hu hb0
 by_cases hab : a.length = b.length
 ·have h1 : ((a.length : Int) != b.length) = false := by simp [hab]
  have na' : (a.length : Int) <= 1000 := by omega
  have HAB := Lib.hid hab
  clear hab
  refine (callsIn_wide (n := 0)).1 ?_
  refine callsIn_of_wp Tryz.func23 rfl trivial ?_ rfl
  simp only [Tryz.ntmps23, List.size_toArray, List.length_cons, List.length_nil, Nat.reduceAdd, Nat.reduceSub, Array.replicate_succ, Array.replicate_zero, List.push_toArray, List.append_toArray, List.nil_append, List.cons_append]
  gi_wp2_with fail
  gi_loopw [5] (fun i wr => ∃ k : Nat, Hid (k <= a.length /\ Rc.sameRow (plE a) (plE b) = Rc.sameRow (plE (a.drop k)) (plE (b.drop k))) /\ i = .int .i64 k /\ Below w0.heap.size w0 wr) (fun i _ => a.length - (intOf i).toNat)
  case atStart => exact ⟨0, ⟨by omega, rfl⟩, rfl, Below.refl _ _⟩
  case round =>
   obtain ⟨k, hto, rfl, hb⟩ := hrel
   by_cases hlt : k < a.length
   ·have hltz : (k : Int) < (a.length : Int) := by omega
    have hkb : k < b.length := by have := HAB.out; omega
    have hltz2 : (k : Int) < (b.length : Int) := by omega
    obtain ⟨x, hx⟩ : ∃ x, a[k] = x := ⟨_, rfl⟩
    obtain ⟨y, hy⟩ : ∃ y, b[k] = y := ⟨_, rfl⟩
    obtain ⟨p0, n0, q0, p1, n1, q1, p2, n2, q2, p3, n3, q3, p4, n4, q4, ex⟩ := x.cells
    obtain ⟨r0, m0, t0, r1, m1, t1, r2, m2, t2, r3, m3, t3, r4, m4, t4, ey⟩ := y.cells
    have hxr : RecRd [.slice p0 n0 q0, .int .u32 (x.1.2.ttl : Int), .int .i64 x.1.2.type, .slice p1 n1 q1, .slice p2 n2 q2, .slice p3 n3 q3, .slice p4 n4 q4] x.1.2 w := by have h := x.2.1; rw [show x.1.1 = _ from ex] at h; exact h
    have hyr : RecRd [.slice r0 m0 t0, .int .u32 (y.1.2.ttl : Int), .int .i64 y.1.2.type, .slice r1 m1 t1, .slice r2 m2 t2, .slice r3 m3 t3, .slice r4 m4 t4] y.1.2 w := by have h := y.2.1; rw [show y.1.1 = _ from ey] at h; exact h
    obtain ⟨ga, rfl, e0, e1, e2, e3, e4, e5, e6⟩ := HV.out _ hb k hlt _ _ _ _ _ _ _ (by rw [hx]; exact ex)
    obtain ⟨gb, rfl, f0, f1, f2, f3, f4, f5, f6⟩ := HU.out _ hb k hkb _ _ _ _ _ _ _ (by rw [hy]; exact ey)
    obtain ⟨ea, hea⟩ : ∃ q, ga.add (k * 7) = q := ⟨_, rfl⟩
    obtain ⟨eb, heb⟩ : ∃ q, gb.add (k * 7) = q := ⟨_, rfl⟩
    rw [hea] at e0 e1 e2 e3 e4 e5 e6
    rw [heb] at f0 f1 f2 f3 f4 f5 f6
    have HZ : Hid (Rc.sameRow (plE (a.drop k)) (plE (b.drop k)) = (((x.1.2.ttl == y.1.2.ttl) && (Rc.cmp x.1.2 y.1.2 == 0)) && Rc.sameRow (plE (a.drop (k + 1))) (plE (b.drop (k + 1))))) := by
     show _ = _
     rw [List.drop_eq_getElem_cons hlt, List.drop_eq_getElem_cons hkb, hx, hy]; rfl
    obtain ⟨bz, hbz⟩ : ∃ bz, (Rc.cmp x.1.2 y.1.2 == 0) = bz := ⟨_, rfl⟩
    have HC := Lib.hid (fun W' (hW : Below w0.heap.size w0 W') => refSameRec_any _ _ x.1.2 y.1.2 W' (hxr.below (below5 HB0.out hW)) (hyr.below (below5 HB0.out hW)) x.2.2 y.2.2)
    rw [hbz] at HC HZ
    have HS : Hid (Cs [(ea, .slice p0 n0 q0), (⟨ea.block, ea.off + 1, none⟩, .int .u32 (x.1.2.ttl : Int)), (⟨ea.block, ea.off + 2, none⟩, .int .i64 x.1.2.type), (⟨ea.block, ea.off + 3, none⟩, .slice p1 n1 q1), (⟨ea.block, ea.off + 4, none⟩, .slice p2 n2 q2), (⟨ea.block, ea.off + 5, none⟩, .slice p3 n3 q3), (⟨ea.block, ea.off + 6, none⟩, .slice p4 n4 q4), (eb, .slice r0 m0 t0), (⟨eb.block, eb.off + 1, none⟩, .int .u32 (y.1.2.ttl : Int)), (⟨eb.block, eb.off + 2, none⟩, .int .i64 y.1.2.type), (⟨eb.block, eb.off + 3, none⟩, .slice r1 m1 t1), (⟨eb.block, eb.off + 4, none⟩, .slice r2 m2 t2), (⟨eb.block, eb.off + 5, none⟩, .slice r3 m3 t3), (⟨eb.block, eb.off + 6, none⟩, .slice r4 m4 t4)] wr) := ⟨e0, e1, e2, e3, e4, e5, e6, f0, f1, f2, f3, f4, f5, f6, trivial⟩
    obtain ⟨tx, htx⟩ : ∃ t, x.1.2.ttl = t := ⟨_, rfl⟩
    obtain ⟨ty, hty⟩ : ∃ t, y.1.2.ttl = t := ⟨_, rfl⟩
    rw [htx, hty] at HS HZ
    rw [htx] at HC
    rw [hty] at HC
    have HB := Lib.hid hb
    clear hx hy ex ey hxr hyr hbz hb e0 e1 e2 e3 e4 e5 e6 f0 f1 f2 f3 f4 f5 f6
    gi_wp2_with fail
    refine drawnH (List.range 23) (Cs [(ea, .slice p0 n0 q0), (⟨ea.block, ea.off + 1, none⟩, .int .u32 (tx : Int)), (⟨ea.block, ea.off + 2, none⟩, .int .i64 x.1.2.type), (⟨ea.block, ea.off + 3, none⟩, .slice p1 n1 q1), (⟨ea.block, ea.off + 4, none⟩, .slice p2 n2 q2), (⟨ea.block, ea.off + 5, none⟩, .slice p3 n3 q3), (⟨ea.block, ea.off + 6, none⟩, .slice p4 n4 q4), (eb, .slice r0 m0 t0), (⟨eb.block, eb.off + 1, none⟩, .int .u32 (ty : Int)), (⟨eb.block, eb.off + 2, none⟩, .int .i64 y.1.2.type), (⟨eb.block, eb.off + 3, none⟩, .slice r1 m1 t1), (⟨eb.block, eb.off + 4, none⟩, .slice r2 m2 t2), (⟨eb.block, eb.off + 5, none⟩, .slice r3 m3 t3), (⟨eb.block, eb.off + 6, none⟩, .slice r4 m4 t4)]) 23 rfl (by kernel_rfl) ?_
    intro wa hwa
    have hS : Cs [(ea, .slice p0 n0 q0), (⟨ea.block, ea.off + 1, none⟩, .int .u32 (tx : Int)), (⟨ea.block, ea.off + 2, none⟩, .int .i64 x.1.2.type), (⟨ea.block, ea.off + 3, none⟩, .slice p1 n1 q1), (⟨ea.block, ea.off + 4, none⟩, .slice p2 n2 q2), (⟨ea.block, ea.off + 5, none⟩, .slice p3 n3 q3), (⟨ea.block, ea.off + 6, none⟩, .slice p4 n4 q4), (eb, .slice r0 m0 t0), (⟨eb.block, eb.off + 1, none⟩, .int .u32 (ty : Int)), (⟨eb.block, eb.off + 2, none⟩, .int .i64 y.1.2.type), (⟨eb.block, eb.off + 3, none⟩, .slice r1 m1 t1), (⟨eb.block, eb.off + 4, none⟩, .slice r2 m2 t2), (⟨eb.block, eb.off + 5, none⟩, .slice r3 m3 t3), (⟨eb.block, eb.off + 6, none⟩, .slice r4 m4 t4)] wa := by subst hwa; exact HS.out.drew
    have HBA : Hid (Below w0.heap.size w0 wa) := by subst hwa; exact HB.out.drew
    clear hwa HS htx hty
    refine tH 0 ?qav0 hS (fun w1 ⟨c0, c1, c2, c3, c4, c5, c6, d0, d1, d2, d3, d4, d5, d6, _⟩ => ?qay0) ?_
    case qay0 => (go_simp; try first | rfl | (rw [if_pos (by omega)]) | (rw [if_neg (by omega)]) | (rw [if_neg (by simp; omega)]) | (split <;> first | (exfalso; omega) | rfl))
    refine tH 1 ?qav1 hS (fun w1 ⟨c0, c1, c2, c3, c4, c5, c6, d0, d1, d2, d3, d4, d5, d6, _⟩ => ?qay1) ?_
    case qay1 => (go_simp; try first | rfl | (rw [if_pos (by omega)]) | (rw [if_neg (by omega)]) | (rw [if_neg (by simp; omega)]) | (split <;> first | (exfalso; omega) | rfl))
    refine tH 2 ?qav2 hS (fun w1 ⟨c0, c1, c2, c3, c4, c5, c6, d0, d1, d2, d3, d4, d5, d6, _⟩ => ?qay2) ?_
    case qay2 => (go_simp; try first | rfl | (rw [if_pos (by omega)]) | (rw [if_neg (by omega)]) | (rw [if_neg (by simp; omega)]) | (split <;> first | (exfalso; omega) | rfl))
    refine tH 3 ?qav3 hS (fun w1 ⟨c0, c1, c2, c3, c4, c5, c6, d0, d1, d2, d3, d4, d5, d6, _⟩ => ?qay3) ?_
    case qay3 => (go_simp; try first | rfl | (rw [if_pos (by omega)]) | (rw [if_neg (by omega)]) | (rw [if_neg (by simp; omega)]) | (split <;> first | (exfalso; omega) | rfl))
    refine tH 4 ?qav4 hS (fun w1 ⟨c0, c1, c2, c3, c4, c5, c6, d0, d1, d2, d3, d4, d5, d6, _⟩ => ?qay4) ?_
    case qay4 => (go_simp; try first | rfl | (rw [if_pos (by omega)]) | (rw [if_neg (by omega)]) | (rw [if_neg (by simp; omega)]) | (split <;> first | (exfalso; omega) | rfl))
    refine tH 5 ?qav5 hS (fun w1 ⟨c0, c1, c2, c3, c4, c5, c6, d0, d1, d2, d3, d4, d5, d6, _⟩ => ?qay5) ?_
    case qay5 => (go_simp; try first | rfl | (rw [if_pos (by omega)]) | (rw [if_neg (by omega)]) | (rw [if_neg (by simp; omega)]) | (split <;> first | (exfalso; omega) | rfl))
    refine tH 6 ?qav6 hS (fun w1 ⟨c0, c1, c2, c3, c4, c5, c6, d0, d1, d2, d3, d4, d5, d6, _⟩ => ?qay6) ?_
    case qay6 => (go_simp; try first | rfl | (rw [if_pos (by omega)]) | (rw [if_neg (by omega)]) | (rw [if_neg (by simp; omega)]) | (split <;> first | (exfalso; omega) | rfl))
    refine tH 7 ?qav7 hS (fun w1 ⟨c0, c1, c2, c3, c4, c5, c6, d0, d1, d2, d3, d4, d5, d6, _⟩ => ?qay7) ?_
    case qay7 => (go_simp; try first | rfl | (rw [if_pos (by omega)]) | (rw [if_neg (by omega)]) | (rw [if_neg (by simp; omega)]) | (split <;> first | (exfalso; omega) | rfl))
    simp only [Act.put, List.setIfInBounds_toArray, List.set_cons_succ, List.set_cons_zero]
    refine oneH 8 (by rfl) (by kernel_rfl) (fun K hK => ?_)
    gi_wp2_with (gi_at_call 50; refine (callsIn_wide.2 (HC.out wa HBA.out)).mono ?_; rintro e w1 ⟨rfl, b1⟩)
    replace hS := hS.below b1
    refine hK _ _ (fun _ => hS) ?_
    clear hK K
    have HBB := Lib.hid (below5 HBA.out b1)
    clear b1
    cases bz with
    | true =>
     refine tH 9 ?qbv9 hS (fun w1 ⟨c0, c1, c2, c3, c4, c5, c6, d0, d1, d2, d3, d4, d5, d6, _⟩ => ?qby9) ?_
     case qby9 => (go_simp; try first | rfl | (rw [if_pos (by omega)]) | (rw [if_neg (by omega)]) | (rw [if_neg (by simp; omega)]) | (split <;> first | (exfalso; omega) | rfl))
     refine tH 10 ?qbv10 hS (fun w1 ⟨c0, c1, c2, c3, c4, c5, c6, d0, d1, d2, d3, d4, d5, d6, _⟩ => ?qby10) ?_
     case qby10 => (go_simp; try first | rfl | (rw [if_pos (by omega)]) | (rw [if_neg (by omega)]) | (rw [if_neg (by simp; omega)]) | (split <;> first | (exfalso; omega) | rfl))
     refine tH 11 ?qbv11 hS (fun w1 ⟨c0, c1, c2, c3, c4, c5, c6, d0, d1, d2, d3, d4, d5, d6, _⟩ => ?qby11) ?_
     case qby11 => (go_simp; try first | rfl | (rw [if_pos (by omega)]) | (rw [if_neg (by omega)]) | (rw [if_neg (by simp; omega)]) | (split <;> first | (exfalso; omega) | rfl))
     refine tH 12 ?qbv12 hS (fun w1 ⟨c0, c1, c2, c3, c4, c5, c6, d0, d1, d2, d3, d4, d5, d6, _⟩ => ?qby12) ?_
     case qby12 => (go_simp; try first | rfl | (rw [if_pos (by omega)]) | (rw [if_neg (by omega)]) | (rw [if_neg (by simp; omega)]) | (split <;> first | (exfalso; omega) | rfl))
     refine tH 13 ?qbv13 hS (fun w1 ⟨c0, c1, c2, c3, c4, c5, c6, d0, d1, d2, d3, d4, d5, d6, _⟩ => ?qby13) ?_
     case qby13 => (go_simp; try first | rfl | (rw [if_pos (by omega)]) | (rw [if_neg (by omega)]) | (rw [if_neg (by simp; omega)]) | (split <;> first | (exfalso; omega) | rfl))
     refine tH 14 ?qbv14 hS (fun w1 ⟨c0, c1, c2, c3, c4, c5, c6, d0, d1, d2, d3, d4, d5, d6, _⟩ => ?qby14) ?_
     case qby14 => (go_simp; try first | rfl | (rw [if_pos (by omega)]) | (rw [if_neg (by omega)]) | (rw [if_neg (by simp; omega)]) | (split <;> first | (exfalso; omega) | rfl))
     refine tH 16 ?qbv16 hS (fun w1 ⟨c0, c1, c2, c3, c4, c5, c6, d0, d1, d2, d3, d4, d5, d6, _⟩ => ?qby16) ?_
     case qby16 => (go_simp; try first | rfl | (rw [if_pos (by omega)]) | (rw [if_neg (by omega)]) | (rw [if_neg (by simp; omega)]) | (split <;> first | (exfalso; omega) | rfl))
     refine tH 17 ?qbv17 hS (fun w1 ⟨c0, c1, c2, c3, c4, c5, c6, d0, d1, d2, d3, d4, d5, d6, _⟩ => ?qby17) ?_
     case qby17 => (go_simp; try first | rfl | (rw [if_pos (by omega)]) | (rw [if_neg (by omega)]) | (rw [if_neg (by simp; omega)]) | (split <;> first | (exfalso; omega) | rfl))
     simp only [Act.put, List.setIfInBounds_toArray, List.set_cons_succ, List.set_cons_zero]
     refine tH 18 ?qcv18 hS (fun w1 ⟨c0, c1, c2, c3, c4, c5, c6, d0, d1, d2, d3, d4, d5, d6, _⟩ => ?qcy18) ?_
     case qcy18 => (go_simp; try first | rfl | (rw [if_pos (by omega)]) | (rw [if_neg (by omega)]) | (rw [if_neg (by simp; omega)]) | (split <;> first | (exfalso; omega) | rfl))
     refine tH 19 ?qcv19 hS (fun w1 ⟨c0, c1, c2, c3, c4, c5, c6, d0, d1, d2, d3, d4, d5, d6, _⟩ => ?qcy19) ?_
     case qcy19 => (go_simp; try first | rfl | (rw [if_pos (by omega)]) | (rw [if_neg (by omega)]) | (rw [if_neg (by simp; omega)]) | (split <;> first | (exfalso; omega) | rfl))
     refine tH 15 ?qcv15 hS (fun w1 ⟨c0, c1, c2, c3, c4, c5, c6, d0, d1, d2, d3, d4, d5, d6, _⟩ => ?qcy15) ?_
     case qcy15 => (go_simp; try first | rfl | (rw [if_pos (by omega)]) | (rw [if_neg (by omega)]) | (rw [if_neg (by simp; omega)]) | (split <;> first | (exfalso; omega) | rfl))
     refine tH 20 ?qcv20 hS (fun w1 ⟨c0, c1, c2, c3, c4, c5, c6, d0, d1, d2, d3, d4, d5, d6, _⟩ => ?qcy20) ?_
     case qcy20 => (go_simp; try first | rfl | (rw [if_pos (by omega)]) | (rw [if_neg (by omega)]) | (rw [if_neg (by simp; omega)]) | (split <;> first | (exfalso; omega) | rfl))
     simp only [Act.put, List.setIfInBounds_toArray, List.set_cons_succ, List.set_cons_zero]
     refine tH 21 ?qdv21 hS (fun w1 ⟨c0, c1, c2, c3, c4, c5, c6, d0, d1, d2, d3, d4, d5, d6, _⟩ => ?qdy21) ?_
     case qdy21 => (go_simp; try first | rfl | (rw [if_pos (by omega)]) | (rw [if_neg (by omega)]) | (rw [if_neg (by simp; omega)]) | (split <;> first | (exfalso; omega) | rfl))
     refine tH 22 ?qdv22 hS (fun w1 ⟨c0, c1, c2, c3, c4, c5, c6, d0, d1, d2, d3, d4, d5, d6, _⟩ => ?qdy22) ?_
     case qdy22 => (go_simp; try first | rfl | (rw [if_pos (by omega)]) | (rw [if_neg (by omega)]) | (rw [if_neg (by simp; omega)]) | (split <;> first | (exfalso; omega) | rfl))
     simp only [Act.put, List.setIfInBounds_toArray, List.set_cons_succ, List.set_cons_zero]
     refine doneH (by kernel_rfl) ?_
     clear hS hea heb
     by_cases ht : tx = ty
     ·have htb : ((tx : Int) != (ty : Int)) = false := by simp [ht]
      gi_wp2_with fail
      refine ⟨⟨k + 1, ⟨hlt, ?_⟩, by go_num, HBB.out⟩, by simp [intOf]; omega⟩
      rw [hto.out.2, HZ.out]; simp [ht]
     ·have htb : ((tx : Int) != (ty : Int)) = true := by simp; omega
      gi_wp2_with fail
      go_ret
      exact ⟨by rw [hto.out.2, HZ.out]; simp [ht], HBB.out⟩
    | false =>
     refine tH 9 ?qev9 hS (fun w1 ⟨c0, c1, c2, c3, c4, c5, c6, d0, d1, d2, d3, d4, d5, d6, _⟩ => ?qey9) ?_
     case qey9 => (go_simp; try first | rfl | (rw [if_pos (by omega)]) | (rw [if_neg (by omega)]) | (rw [if_neg (by simp; omega)]) | (split <;> first | (exfalso; omega) | rfl))
     refine tH 10 ?qev10 hS (fun w1 ⟨c0, c1, c2, c3, c4, c5, c6, d0, d1, d2, d3, d4, d5, d6, _⟩ => ?qey10) ?_
     case qey10 => (go_simp; try first | rfl | (rw [if_pos (by omega)]) | (rw [if_neg (by omega)]) | (rw [if_neg (by simp; omega)]) | (split <;> first | (exfalso; omega) | rfl))
     simp only [Act.put, List.setIfInBounds_toArray, List.set_cons_succ, List.set_cons_zero]
     refine tU 11 hS ?_
     refine tU 12 hS ?_
     refine tU 13 hS ?_
     refine tU 14 hS ?_
     refine tU 15 hS ?_
     refine tU 16 hS ?_
     refine tU 17 hS ?_
     refine tU 18 hS ?_
     refine tU 19 hS ?_
     refine tU 20 hS ?_
     refine tU 21 hS ?_
     simp only [Act.put, List.setIfInBounds_toArray, List.set_cons_succ, List.set_cons_zero]
     refine tH 22 ?qfv22 hS (fun w1 ⟨c0, c1, c2, c3, c4, c5, c6, d0, d1, d2, d3, d4, d5, d6, _⟩ => ?qfy22) ?_
     case qfy22 => (go_simp; try first | rfl | (rw [if_pos (by omega)]) | (rw [if_neg (by omega)]) | (rw [if_neg (by simp; omega)]) | (split <;> first | (exfalso; omega) | rfl))
     simp only [Act.put, List.setIfInBounds_toArray, List.set_cons_succ, List.set_cons_zero]
     refine doneH (by kernel_rfl) ?_
     clear hS hea heb
     gi_wp2_with fail
     go_ret
     exact ⟨by rw [hto.out.2, HZ.out, Bool.and_false, Bool.false_and]; rfl, HBB.out⟩
   ·have hltz : ¬ ((k : Int) < (a.length : Int)) := by omega
    have HF : Hid (Rc.sameRow (plE a) (plE b) = true) := by
     show _ = _
     rw [hto.out.2, List.drop_of_length_le (l := a) (by omega), List.drop_of_length_le (l := b) (by have := HAB.out; omega)]; rfl
    gi_wp2_with fail
    go_ret
    exact ⟨by rw [HF.out]; rfl, hb⟩
 ·have h1 : ((a.length : Int) != b.length) = true := by simp; omega
  have HF : Hid (Rc.sameRow (plE a) (plE b) = false) := Rc.sameRow_len (by simpa [plE] using hab)
  refine (callsIn_wide (n := 0)).1 ?_
  refine callsIn_of_wp Tryz.func23 rfl trivial ?_ rfl
  simp only [Tryz.ntmps23, List.size_toArray, List.length_cons, List.length_nil, Nat.reduceAdd, Nat.reduceSub, Array.replicate_succ, Array.replicate_zero, List.push_toArray, List.append_toArray, List.nil_append, List.cons_append]
  gi_wp2_with fail
  go_ret
  exact ⟨by rw [HF.out]; rfl, Below.refl _ _⟩
end Go.Proofs.YtbgbahllhjelgaaGreatDoor
end
section
namespace Go.Proofs.YtbgbahllhjelgaaGreatDoor
open Go.RowKit Go.Shelf Go.Sort
set_option maxRecDepth 100000
theorem row_emptyG (R : Nat -> Prop) (et : TypeId) (sz : Nat) (w : World) (h : R w.heap.size) : Row R et sz (.slice (some ⟨w.heap.size, 0, none⟩) 0 0) 0 [] (w.alloc (.cells #[] et)) :=
 ⟨⟨by simp, .inr ⟨w.heap.size, 0, #[], rfl, Nat.zero_le _, World.alloc_heap_new w _, by simp, by unfold maxLen; omega, by simp, by simp⟩⟩, fun g hg => by simp only [Value.ownBlock, Option.some.injEq] at hg; subst hg; exact h⟩
theorem encP_el {w : World} (l : List (El w)) : encP (l.map (·.1)) = l.flatMap encE := encP_map l
set_option maxHeartbeats 8000000 in
theorem walkRecTurned (v0 : Value) (l0 : List RP) (a1 : Int) (w : World) (h0 : RecsRd v0 l0 w /\ ∀ x ∈ l0, RN x.2) (h1 : (Lit.int .u8 a1).wf = true) (ht : Tab w) :
  Calls Tryz.prog 5 #[v0, .int .u8 a1] w (TrE w) := by
 replace h1 : 0 <= a1 /\ a1 <= 255 := by
  obtain ⟨b, rfl⟩ := wf_u8 h1
  have := b.toNat_lt
  omega
 obtain ⟨h0, hrn⟩ := h0
 obtain ⟨o1, c1, rfl, rb1, rb2⟩ := h0.shape
 obtain ⟨t2, rfl⟩ := Int.eq_ofNat_of_zero_le h1.1
 have ht2 : t2 <= 255 := by omega
 have HV := Lib.hid h0
 have HRN := Lib.hid hrn
 have HT := Lib.hid ht
 clear h0 h1 hrn ht
 refine (callsIn_wide (n := 0)).1 ?_
 refine callsIn_of_wp Tryz.func5 rfl trivial ?_ rfl
 simp only [Tryz.ntmps5, List.size_toArray, List.length_cons, List.length_nil, Nat.reduceAdd, Nat.reduceSub, Array.replicate_succ, Array.replicate_zero, List.push_toArray, List.append_toArray, List.nil_append, List.cons_append]
 gi_wp2_with fail
 refine (callsIn_wide.2 (known5_any _ HT.out)).mono ?_
 rintro e w1 ⟨rfl, b1⟩
 have HF := Lib.hid (few5_any _ l0 w1 (HV.out.kept b1))
 have HB1 := Lib.hid b1
 clear b1
 gi_wp2_with fail
 refine (callsIn_wide.2 HF.out).mono ?_
 rintro e w3 ⟨b, rfl, hq, b2⟩
 have HB3 := Lib.hid (below5 HB1.out b2)
 have HQ := Lib.hid hq
 clear HF b2 hq
 cases b with
 | false =>
  gi_wp2_with fail
  go_ret
  exact ⟨rfl, HB3.out⟩
 | true =>
 by_cases hz : l0.length = 0
 ·rw [hz]
  gi_wp2_with fail
  go_ret
  exact ⟨rfl, HB3.out⟩
 have hz1 : ¬ (l0.length : Int) = 0 := by omega
 have hz2 : decide ((l0.length : Int) = 0) = false := decide_eq_false hz1
 have hz3 : ((l0.length : Int) == 0) = false := by simpa using hz1
 obtain ⟨L, hL, hL60, hLl⟩ := els_of (HV.out.kept HB3.out) (HQ.out rfl) HRN.out
 have HRC := Lib.hid (show ∀ W, Below w3.heap.size w3 W -> RecsRd (.slice o1 l0.length c1) (L.map (·.1)) W from fun W hb => by rw [hL]; exact HV.out.kept (below5 HB3.out hb))
 clear hL HQ HB1
 obtain ⟨k, hk⟩ : ∃ k, t2 % l0.length = k := ⟨_, rfl⟩
 have hkl : k < l0.length := by rw [<- hk]; exact Nat.mod_lt _ (by omega)
 have hki : (t2 : Int) % (l0.length : Int) = (k : Int) := by rw [<- hk]; exact (Int.natCast_emod _ _).symm
 have hkt : (t2 : Int).tmod (l0.length : Int) = (k : Int) := by rw [Int.tmod_eq_emod_of_nonneg (by omega)]; exact hki
 gi_wp2_with fail
 have hkc : ¬ c1 = k := by omega
 have hkz : (k : Int) <= (l0.length : Int) := by omega
 have HTA := Lib.hid (fun (W : World) (hb : Below w3.heap.size w3 W) => (show RecsRd (.slice (o1.map (·.add (k * 7))) (l0.length - k) (c1 - k)) ((L.drop k).map (·.1)) W by
  have h2 := RecsRd.tail (o := o1) (cap := c1) (l := L) (by rw [hLl]; exact HRC.out W hb) k (by omega)
  rw [hLl] at h2
  exact h2))
 have HTB := Lib.hid (fun (W : World) (hb : Below w3.heap.size w3 W) => (show RecsRd (.slice o1 k c1) ((L.take k).map (·.1)) W by
  exact RecsRd.init (o := o1) (cap := c1) (l := L) (by rw [hLl]; exact HRC.out W hb) k (by omega)))
 have hLk : (L.drop k).length = l0.length - k := by simp; omega
 have hLt : (L.take k).length = k := by simp; omega
 have HLN := Lib.hid (And.intro hLk hLt)
 have HLL := Lib.hid hLl
 clear hLk hLt hk hki hLl
 refine drawnH [] (fun _ => True) 10 rfl (by kernel_rfl) ?_
 intro w6 hw6
 have hS : True := trivial
 have HB6 : Hid (Below w3.heap.size w3 w6) := by subst hw6; exact (Below.refl _ _).drew
 clear hw6
 refine tP 1 ?qv1 (fun w1 _ => ?qy1) ?_
 case qy1 => (go_simp; try first | rfl | (rw [if_pos (by omega)]) | (rw [if_neg (by omega)]) | (rw [if_neg (by simp; omega)]) | (split <;> first | (exfalso; omega) | rfl))
 refine tP 2 ?qv2 (fun w1 _ => ?qy2) ?_
 case qy2 => (go_simp; try first | rfl | (rw [if_pos (by omega)]) | (rw [if_neg (by omega)]) | (rw [if_neg (by simp; omega)]) | (split <;> first | (exfalso; omega) | rfl))
 refine tP 3 ?qv3 (fun w1 _ => ?qy3) ?_
 case qy3 => (go_simp; try first | rfl | (rw [if_pos (by omega)]) | (rw [if_neg (by omega)]) | (rw [if_neg (by simp; omega)]) | (split <;> first | (exfalso; omega) | rfl))
 refine tP 5 ?qv5 (fun w1 _ => ?qy5) ?_
 case qy5 => (go_simp; try first | rfl | (rw [if_pos (by omega)]) | (rw [if_neg (by omega)]) | (rw [if_neg (by simp; omega)]) | (split <;> first | (exfalso; omega) | rfl))
 refine tP 6 ?qv6 (fun w1 _ => ?qy6) ?_
 case qy6 => (go_simp; try first | rfl | (rw [if_pos (by omega)]) | (rw [if_neg (by omega)]) | (rw [if_neg (by simp; omega)]) | (split <;> first | (exfalso; omega) | rfl))
 refine tP 7 ?qv7 (fun w1 _ => ?qy7) ?_
 case qy7 => (go_simp; try first | rfl | (rw [if_pos (by omega)]) | (rw [if_neg (by omega)]) | (rw [if_neg (by simp; omega)]) | (split <;> first | (exfalso; omega) | rfl))
 simp only [Act.put, List.setIfInBounds_toArray, List.set_cons_succ, List.set_cons_zero]
 refine oneH 0 (by rfl) (by kernel_rfl) (fun K hK => ?_)
 gi_wp2_with fail
 have HB7 : Hid (Below w3.heap.size w3 (w6.alloc (.cells #[] 31))) := HB6.out.alloc HB6.out.size _
 refine hK _ _ (fun _ => trivial) ?_
 clear hK K
 refine oneH 4 (by rfl) (by kernel_rfl) (fun K hK => ?_)
 refine append_recs (fun g => w3.heap.size <= g) rfl _ _ 34 Tryz.underlying34 rfl _ 0 [] (by rfl) (row_emptyG _ _ 7 w6 HB6.out.size) _ ((L.drop k).map (·.1)) (by rfl) (HTA.out _ HB7.out) (by simp; omega) (by have := HB6.out.size; simp; omega) ?_
 intro v8 w8 hrow8 hgr8
 have hb8 : Below w3.heap.size w3 w8 := HB7.out.grown hgr8 HB7.out.size (fun g hg => by simp only [Value.ownBlock, Option.some.injEq] at hg; have := HB6.out.size; omega)
 have HB8 := Lib.hid hb8
 have HR8 := Lib.hid hrow8
 obtain ⟨o8, c8, rfl⟩ := hrow8.form
 refine hK _ _ (fun _ => trivial) ?_
 clear hK K hrow8 hgr8 hb8
 refine oneH 8 (by rfl) (by kernel_rfl) (fun K hK => ?_)
 refine append_recs (fun g => w3.heap.size <= g) rfl _ _ 34 Tryz.underlying34 rfl _ _ _ (by rfl) HR8.out _ ((L.take k).map (·.1)) (by rfl) (HTB.out _ HB8.out) (by simp; omega) (HB8.out.size) ?_
 intro v9 w9 hrow9 hgr9
 have HB9 : Hid (Below w3.heap.size w3 w9) := HB8.out.grown hgr9 HB8.out.size (fun g hg => HR8.out.2 g hg)
 obtain ⟨o9, c9, rfl⟩ := hrow9.form
 have hrec9 : RecsRd (.slice o9 (L.length - k + min k L.length) c9) ((L.drop k ++ L.take k).map (·.1)) w9 := by
  have h := hrow9
  rw [List.nil_append, encP_el, encP_el, <- List.flatMap_append] at h
  have hlen : (0 + (List.map (fun x : El w3 => x.val) (L.drop k)).length + (List.map (fun x : El w3 => x.val) (L.take k)).length) = (L.drop k ++ L.take k).length := by simp
  rw [hlen] at h
  have hl2 : (L.drop k ++ L.take k).length = L.length - k + min k L.length := by simp
  have := h.recs HB9.out
  rw [hl2] at this
  exact this
 have HR9 := Lib.hid hrec9
 refine hK _ _ (fun _ => trivial) ?_
 clear hK K hrow9 hgr9 hrec9
 refine oneH 9 (by rfl) (by kernel_rfl) (fun K hK => ?_)
 gi_wp2_with fail
 refine hK _ _ (fun h => by simp at h) ?_
 clear hK K
 refine doneH (by kernel_rfl) ?_
 gi_wp2_with fail
 refine (callsIn_wide.2 (canon2_any HB9.out (.slice o1 l0.length c1) L (HRC.out w9 HB9.out) (by omega))).mono ?_
 rintro e w10 ⟨oa, ca, la, rfl, ha, hpa, hna, ba⟩
 have HA := Lib.hid ha
 have HPA := Lib.hid hpa
 have HBA := Lib.hid ba
 have na : la.length <= 1000 := by have : (plE L).length = L.length := plE_len L; omega
 clear ha hpa hna ba
 gi_wp2_with fail
 refine (callsIn_wide.2 (canon2_any (below5 HB9.out HBA.out) (.slice o9 (L.length - k + min k L.length) c9) (L.drop k ++ L.take k) (HR9.out.kept HBA.out) (by simp; omega))).mono ?_
 rintro e w11 ⟨ob, cb, lb, rfl, hb, hpb, hnb, bb⟩
 have HBR := Lib.hid hb
 have HPB := Lib.hid hpb
 have HBB := Lib.hid bb
 have nb : lb.length <= 1000 := by have : (plE (L.drop k ++ L.take k)).length = (L.drop k ++ L.take k).length := plE_len _; simp at this; omega
 clear hb hpb hnb bb
 have HSR : Hid (Calls Tryz.prog 22 #[.slice oa la.length ca, .slice ob lb.length cb] w11 (Gives (.bool true) w11)) := by
  have h := sameRow2_any HBB.out (.slice oa la.length ca) (.slice ob lb.length cb) (la.map (El.up HBA.out)) lb (by rw [up_fst]; exact HA.out.kept HBB.out) HBR.out (by simpa using na) nb
  rw [up_pl, HPA.out, HPB.out] at h
  have hs : Rc.sameRow (Rc.canon (plE L)) (Rc.canon (plE (L.drop k ++ L.take k))) = true := by
   have := Rc.turn_same (plE L) k
   have e : plE (L.drop k ++ L.take k) = (plE L).drop k ++ (plE L).take k := by simp [plE, List.map_drop, List.map_take]
   rw [e]; exact this
  rw [hs] at h
  exact h
 gi_wp2_with fail
 refine (callsIn_wide.2 HSR.out).mono ?_
 rintro e w12 ⟨rfl, b12⟩
 have HB12 := Lib.hid (below5 HB3.out (below5 HB9.out (below5 HBA.out (below5 HBB.out b12))))
 gi_wp2_with fail
 go_ret
 exact ⟨rfl, HB12.out⟩
end Go.Proofs.YtbgbahllhjelgaaGreatDoor
end
