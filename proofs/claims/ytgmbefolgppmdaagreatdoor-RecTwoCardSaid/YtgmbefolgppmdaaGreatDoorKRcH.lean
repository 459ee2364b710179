/- Records: rows alike. -/
import Derived.Test.YtgmbefolgppmdaaGreatDoorKRcG
namespace Go.Proofs.YtgmbefolgppmdaaGreatDoor
open Go.RowKit Go.Shelf Go.Sort
set_option maxRecDepth 100000
namespace Rc
def same1 (a b : PRec) : Bool := (a.ttl == b.ttl) && (cmp a b == 0)
def sameRow : List PRec -> List PRec -> Bool
 | [], [] => true
 | x :: a, y :: b => same1 x y && sameRow a b
 | _, _ => false
theorem sameRow_len : ∀ {a b : List PRec}, a.length ≠ b.length -> sameRow a b = false
 | [], [], h => absurd rfl h
 | [], _ :: _, _ => rfl
 | _ :: _, [], _ => rfl
 | x :: a, y :: b, h => by rw [sameRow, sameRow_len (a := a) (b := b) (by simpa using h), Bool.and_false]
end Rc
set_option maxHeartbeats 1000000 in
theorem same1_any (va vb : List Value) (a b : Rc.PRec) (w : World) (ha : RecRd va a w) (hb : RecRd vb b w) (na : RB a) (nb : RB b) :
  Calls Tryz.prog 41 #[.agg va.toArray, .agg vb.toArray] w (Gives (.bool (Rc.same1 a b)) w) := by
 have HA := Lib.hid ha
 have HB := Lib.hid hb
 obtain ⟨ao, ad, rfl, _, an, am, at', ar, rfl, _⟩ := ha
 obtain ⟨bo, bd, rfl, _, bn, bm, bt, br, rfl, _⟩ := hb
 have NA := Lib.hid na
 have NB' := Lib.hid nb
 clear na nb
 by_cases h : a.ttl = b.ttl
 ·have HS : Hid (Rc.same1 a b = (Rc.cmp a b == 0)) := by show _ = _; simp [Rc.same1, h]
  have h1 : ((a.ttl : Int) == (b.ttl : Int)) = true := by simp [h]
  have h2 : decide (a.ttl = b.ttl) = true := by simp [h]
  clear h
  go_enter Tryz.func41, Tryz.ntmps41
  go_wp2_with fail
  refine (recSame_any [ao, .int .u32 a.ttl, .int .i64 a.type, an, am, at', ar] [bo, .int .u32 b.ttl, .int .i64 b.type, bn, bm, bt, br] a b _ (HA.out.below (((Below.refl _ _).alloc (Nat.le_refl _) _).alloc (by simp) _)) (HB.out.below (((Below.refl _ _).alloc (Nat.le_refl _) _).alloc (by simp) _)) NA.out NB'.out).mono ?_
  rintro e w1 ⟨rfl, b1⟩
  have hb1 := (((Below.refl w.heap.size w).alloc (Nat.le_refl _) _).alloc (by simp) _).trans (b1.mono (by simp; omega))
  go_wp2_with fail
  go_ret
  exact ⟨by rw [HS.out]; rfl, hb1⟩
 ·have HS : Hid (Rc.same1 a b = false) := by show _ = _; simp [Rc.same1, h]
  have h1 : ((a.ttl : Int) == (b.ttl : Int)) = false := by simp; omega
  have h2 : decide (a.ttl = b.ttl) = false := by simp [h]
  go_enter Tryz.func41, Tryz.ntmps41
  go_wp2_with fail
  go_ret
  exact ⟨by rw [HS.out]; rfl, ((Below.refl _ _).alloc (Nat.le_refl _) _).alloc (by simp) _⟩
theorem addr7 (a : Addr) (j c : Nat) (hc : 0 < c) : a.add (j + c) = ⟨(a.add j).block, (a.add j).off + c, none⟩ := by
 unfold Addr.add
 rw [if_neg (by omega)]
 split
 ·rename_i h; subst h; simp
 ·simp [Nat.add_assoc]
theorem RecsRd.el {w : World} {o : Option Addr} {n cap : Nat} {l : List (El w)} {W : World} (h : RecsRd (.slice o n cap) (l.map (·.1)) W) : ∀ W', Below W.heap.size W W' -> ∀ (i : Nat) (hi : i < l.length) (c0 c1 c2 c3 c4 c5 c6 : Value), encE l[i] = [c0, c1, c2, c3, c4, c5, c6] -> ∃ a, o = some a /\
  W'.cell? (a.add (i * 7)) = some c0 /\ W'.cell? ⟨(a.add (i * 7)).block, (a.add (i * 7)).off + 1, none⟩ = some c1 /\ W'.cell? ⟨(a.add (i * 7)).block, (a.add (i * 7)).off + 2, none⟩ = some c2 /\ W'.cell? ⟨(a.add (i * 7)).block, (a.add (i * 7)).off + 3, none⟩ = some c3 /\ W'.cell? ⟨(a.add (i * 7)).block, (a.add (i * 7)).off + 4, none⟩ = some c4 /\ W'.cell? ⟨(a.add (i * 7)).block, (a.add (i * 7)).off + 5, none⟩ = some c5 /\ W'.cell? ⟨(a.add (i * 7)).block, (a.add (i * 7)).off + 6, none⟩ = some c6 := by
 intro W' hb i hi c0 c1 c2 c3 c4 c5 c6 hx
 obtain ⟨_, o', cap', h1, h2, h3, h4, h5⟩ := h.kept hb
 cases h1
 have hk : ∀ c, c < 7 -> ∃ a, o = some a /\ W'.cell? (a.add (i * 7 + c)) = (encE l[i])[c]? := fun c hc => by
  have hl : i * 7 + c < (encP (l.map (·.1))).length := by rw [encP_map, flat_len encE 7 encE_len]; omega
  obtain ⟨a, ha, hcell⟩ := h5 _ hl
  refine ⟨a, ha, ?_⟩
  rw [hcell, <- flat7 l i hi c hc, <- encP_map, List.getElem?_eq_getElem hl]
 obtain ⟨a, ha, k0⟩ := hk 0 (by omega)
 have hk' : ∀ c, c < 7 -> W'.cell? (a.add (i * 7 + c)) = (encE l[i])[c]? := fun c hc => by
  obtain ⟨a', ha', h⟩ := hk c hc
  rw [ha] at ha'; cases ha'; exact h
 rw [hx] at hk'
 exact ⟨a, ha, hk' 0 (by omega), by rw [<- addr7 a _ 1 (by omega)]; exact hk' 1 (by omega), by rw [<- addr7 a _ 2 (by omega)]; exact hk' 2 (by omega), by rw [<- addr7 a _ 3 (by omega)]; exact hk' 3 (by omega), by rw [<- addr7 a _ 4 (by omega)]; exact hk' 4 (by omega), by rw [<- addr7 a _ 5 (by omega)]; exact hk' 5 (by omega), by rw [<- addr7 a _ 6 (by omega)]; exact hk' 6 (by omega)⟩
structure Rc.SameAt (a b : List Rc.PRec) (k : Nat) : Prop where
 la : k <= a.length
 eq : Rc.sameRow a b = Rc.sameRow (a.drop k) (b.drop k)
set_option maxHeartbeats 1000000 in
theorem equalRec_any {w : World} (v u : Value) (a b : List (El w)) (hv : RecsRd v (a.map (·.1)) w) (hu : RecsRd u (b.map (·.1)) w) (na : a.length <= 1000) (_nb : b.length <= 1000) :
  Calls Tryz.prog 40 #[v, u, .func (.func 41) #[] #[]] w (Gives (.bool (Rc.sameRow (plE a) (plE b))) w) := by
 obtain ⟨o, cap, rfl⟩ : ∃ o cap, v = .slice o a.length cap := by obtain ⟨_, o, cap, h, _⟩ := hv; exact ⟨o, cap, by rw [h, List.length_map]⟩
 obtain ⟨o', cap', rfl⟩ : ∃ o cap, u = .slice o b.length cap := by obtain ⟨_, o, cap, h, _⟩ := hu; exact ⟨o, cap, by rw [h, List.length_map]⟩
 have HV := Lib.hid hv.el
 have HU := Lib.hid hu.el
 clear hv hu
 by_cases hab : a.length = b.length
 ·have h1 : ((a.length : Int) != b.length) = false := by simp [hab]
  have na' : (a.length : Int) <= 1000 := by omega
  have HAB := Lib.hid hab
  clear hab na _nb
  go_enter Tryz.func40, Tryz.ntmps40
  go_wp2
  go_loopw [17] (fun i wr => ∃ k : Nat, Hid (k <= a.length /\ Rc.sameRow (plE a) (plE b) = Rc.sameRow (plE (a.drop k)) (plE (b.drop k))) /\ i = .int .i64 k /\ Below w.heap.size w wr) (fun i _ => a.length - (intOf i).toNat)
  case atStart => exact ⟨0, ⟨by omega, rfl⟩, rfl, Below.refl _ _⟩
  case round =>
   obtain ⟨k, hto, rfl, hb⟩ := hrel
   by_cases hlt : k < a.length
   ·have hltz : (k : Int) < (a.length : Int) := by omega
    have hltz2 : (k : Int) < (b.length : Int) := by have := HAB.out; omega
    obtain ⟨x, hx⟩ : ∃ x, a[k] = x := ⟨_, rfl⟩
    obtain ⟨y, hy⟩ : ∃ y, b[k]'(by have := HAB.out; omega) = y := ⟨_, rfl⟩
    obtain ⟨p0, n0, q0, p1, n1, q1, p2, n2, q2, p3, n3, q3, p4, n4, q4, ex⟩ := x.cells
    obtain ⟨r0, k0, t0, r1, k1, t1, r2, k2, t2, r3, k3, t3, r4, k4, t4, ey⟩ := y.cells
    obtain ⟨ga, rfl, e0, e1, e2, e3, e4, e5, e6⟩ := HV.out _ hb k hlt _ _ _ _ _ _ _ (by rw [hx]; exact ex)
    obtain ⟨gb, rfl, f0, f1, f2, f3, f4, f5, f6⟩ := HU.out _ hb k (by have := HAB.out; omega) _ _ _ _ _ _ _ (by rw [hy]; exact ey)
    have F : ∀ ob : Obj, (wr.alloc ob).cell? (gb.add (k * 7)) = some (.slice r0 k0 t0) /\ (wr.alloc ob).cell? ⟨(gb.add (k * 7)).block, (gb.add (k * 7)).off + 1, none⟩ = some (.int .u32 (y.1.2.ttl : Int)) /\ (wr.alloc ob).cell? ⟨(gb.add (k * 7)).block, (gb.add (k * 7)).off + 2, none⟩ = some (.int .i64 y.1.2.type) /\ (wr.alloc ob).cell? ⟨(gb.add (k * 7)).block, (gb.add (k * 7)).off + 3, none⟩ = some (.slice r1 k1 t1) /\ (wr.alloc ob).cell? ⟨(gb.add (k * 7)).block, (gb.add (k * 7)).off + 4, none⟩ = some (.slice r2 k2 t2) /\ (wr.alloc ob).cell? ⟨(gb.add (k * 7)).block, (gb.add (k * 7)).off + 5, none⟩ = some (.slice r3 k3 t3) /\ (wr.alloc ob).cell? ⟨(gb.add (k * 7)).block, (gb.add (k * 7)).off + 6, none⟩ = some (.slice r4 k4 t4) := fun ob => by
     obtain ⟨a', ha', h⟩ := HU.out (wr.alloc ob) (hb.alloc hb.size ob) k (by have := HAB.out; omega) _ _ _ _ _ _ _ (by rw [hy]; exact ey)
     cases ha'; exact h
    have F0 := fun ob => (F ob).1
    have F1 := fun ob => (F ob).2.1
    have F2 := fun ob => (F ob).2.2.1
    have F3 := fun ob => (F ob).2.2.2.1
    have F4 := fun ob => (F ob).2.2.2.2.1
    have F5 := fun ob => (F ob).2.2.2.2.2.1
    have F6 := fun ob => (F ob).2.2.2.2.2.2
    have HX := Lib.hid ex
    have HY := Lib.hid ey
    have HZ : Hid (Rc.sameRow (plE (a.drop k)) (plE (b.drop k)) = (Rc.same1 x.1.2 y.1.2 && Rc.sameRow (plE (a.drop (k + 1))) (plE (b.drop (k + 1))))) := by
     show _ = _
     rw [List.drop_eq_getElem_cons hlt, List.drop_eq_getElem_cons (show k < b.length by have := HAB.out; omega), hx, hy]; rfl
    clear hx hy ex ey HV HU F f0 f1 f2 f3 f4 f5 f6
    have HRX : Hid (RecRd [.slice p0 n0 q0, .int .u32 (x.1.2.ttl : Int), .int .i64 x.1.2.type, .slice p1 n1 q1, .slice p2 n2 q2, .slice p3 n3 q3, .slice p4 n4 q4] x.1.2 w) := by have h := x.2.1; rw [show x.1.1 = _ from HX.out] at h; exact h
    have HRY : Hid (RecRd [.slice r0 k0 t0, .int .u32 (y.1.2.ttl : Int), .int .i64 y.1.2.type, .slice r1 k1 t1, .slice r2 k2 t2, .slice r3 k3 t3, .slice r4 k4 t4] y.1.2 w) := by have h := y.2.1; rw [show y.1.1 = _ from HY.out] at h; exact h
    have HBW : Hid (∀ o1 o2, Below w.heap.size w ((wr.alloc o1).alloc o2)) := fun o1 o2 => (hb.alloc hb.size _).alloc (by have := hb.size; simp; omega) _
    obtain ⟨bz, hz⟩ : ∃ bz, Rc.same1 x.1.2 y.1.2 = bz := ⟨_, rfl⟩
    have HSZ := Lib.hid hz
    clear hz
    cases bz with
    | true =>
     go_wp2_with fail
     refine (same1_any [.slice p0 n0 q0, .int .u32 (x.1.2.ttl : Int), .int .i64 x.1.2.type, .slice p1 n1 q1, .slice p2 n2 q2, .slice p3 n3 q3, .slice p4 n4 q4] [.slice r0 k0 t0, .int .u32 (y.1.2.ttl : Int), .int .i64 y.1.2.type, .slice r1 k1 t1, .slice r2 k2 t2, .slice r3 k3 t3, .slice r4 k4 t4] x.1.2 y.1.2 _ (HRX.out.below (HBW.out _ _)) (HRY.out.below (HBW.out _ _)) x.2.2 y.2.2).mono ?_
     rintro e w3 ⟨rfl, b3⟩
     rw [HSZ.out]
     have hb3 := Lib.hid (below5 (HBW.out _ _) b3)
     clear b3
     go_wp2_with fail
     refine ⟨⟨k + 1, ⟨hlt, ?_⟩, by go_num, hb3.out⟩, by simp [intOf]; omega⟩
     rw [hto.out.2, HZ.out, HSZ.out, Bool.true_and]
    | false =>
     go_wp2_with fail
     refine (same1_any [.slice p0 n0 q0, .int .u32 (x.1.2.ttl : Int), .int .i64 x.1.2.type, .slice p1 n1 q1, .slice p2 n2 q2, .slice p3 n3 q3, .slice p4 n4 q4] [.slice r0 k0 t0, .int .u32 (y.1.2.ttl : Int), .int .i64 y.1.2.type, .slice r1 k1 t1, .slice r2 k2 t2, .slice r3 k3 t3, .slice r4 k4 t4] x.1.2 y.1.2 _ (HRX.out.below (HBW.out _ _)) (HRY.out.below (HBW.out _ _)) x.2.2 y.2.2).mono ?_
     rintro e w3 ⟨rfl, b3⟩
     rw [HSZ.out]
     have hb3 := Lib.hid (below5 (HBW.out _ _) b3)
     clear b3
     go_wp2_with fail
     go_ret
     exact ⟨by rw [hto.out.2, HZ.out, HSZ.out]; rfl, hb3.out⟩
   ·have hltz : ¬ ((k : Int) < (a.length : Int)) := by omega
    have HF : Hid (Rc.sameRow (plE a) (plE b) = true) := by
     show _ = _
     rw [hto.out.2, List.drop_of_length_le (l := a) (by omega), List.drop_of_length_le (l := b) (by have := HAB.out; omega)]; rfl
    go_wp2
    go_ret
    exact ⟨by rw [HF.out]; rfl, hb⟩
 ·have h1 : ((a.length : Int) != b.length) = true := by simp; omega
  have HF : Hid (Rc.sameRow (plE a) (plE b) = false) := Rc.sameRow_len (by simpa [plE] using hab)
  go_enter Tryz.func40, Tryz.ntmps40
  go_wp2
  go_ret
  exact ⟨by rw [HF.out]; rfl, Below.refl _ _⟩
set_option maxHeartbeats 1000000 in
theorem sameRow_any {w : World} (v u : Value) (a b : List (El w)) (hv : RecsRd v (a.map (·.1)) w) (hu : RecsRd u (b.map (·.1)) w) (na : a.length <= 1000) (nb : b.length <= 1000) :
  Calls Tryz.prog 15 #[v, u] w (Gives (.bool (Rc.sameRow (plE a) (plE b))) w) := by
 have HC := Lib.hid (equalRec_any v u a b hv hu na nb)
 clear hv hu
 go_enter Tryz.func15, Tryz.ntmps15
 go_wp2_with fail
 refine HC.out.mono ?_
 rintro e w1 ⟨rfl, b1⟩
 go_wp2_with fail
 go_ret
 exact ⟨rfl, b1⟩
end Go.Proofs.YtgmbefolgppmdaaGreatDoor
