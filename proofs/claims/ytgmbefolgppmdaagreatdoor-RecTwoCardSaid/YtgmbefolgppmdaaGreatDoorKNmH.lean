/- Names: which of two stands first. -/
import Derived.Test.YtgmbefolgppmdaaGreatDoorKNmC
import Derived.Test.YtgmbefolgppmdaaGreatDoorKReg
namespace Go.Proofs.YtgmbefolgppmdaaGreatDoor
open Go.RowKit Go.Shelf
set_option maxRecDepth 100000
def Nm.sgn (x y : Int) : Int := if x < y then -1 else if y < x then 1 else 0
structure Nm.CmAt (a b : List (List UInt8)) (k : Nat) : Prop where
 la : k <= a.length
 lb : k <= b.length
 eq : Nm.cmp a b = Nm.cmpR (a.reverse.drop k) (b.reverse.drop k)
theorem Nm.CmAt.start (a b : List (List UInt8)) : Nm.CmAt a b 0 := ⟨by omega, by omega, rfl⟩
theorem Nm.rev_drop (a : List (List UInt8)) (k : Nat) (h : k < a.length) : a.reverse.drop k = (a[a.length - 1 - k]'(by omega)) :: a.reverse.drop (k + 1) := by
 rw [List.drop_eq_getElem_cons (by simpa using h), List.getElem_reverse]
theorem Nm.CmAt.go {a b : List (List UInt8)} {k} (h : Nm.CmAt a b k) (ha : k < a.length) (hb : k < b.length) (hz : cmpL (a[a.length - 1 - k]'(by omega)) (b[b.length - 1 - k]'(by omega)) = 0) : Nm.CmAt a b (k + 1) := by
 refine ⟨ha, hb, ?_⟩
 rw [h.eq, Nm.rev_drop a k ha, Nm.rev_drop b k hb, Nm.cmpR, if_pos hz]
theorem Nm.CmAt.stop {a b : List (List UInt8)} {k} (h : Nm.CmAt a b k) (ha : k < a.length) (hb : k < b.length) (hz : cmpL (a[a.length - 1 - k]'(by omega)) (b[b.length - 1 - k]'(by omega)) ≠ 0) :
  Nm.cmp a b = cmpL (a[a.length - 1 - k]'(by omega)) (b[b.length - 1 - k]'(by omega)) := by
 rw [h.eq, Nm.rev_drop a k ha, Nm.rev_drop b k hb, Nm.cmpR, if_neg hz]
theorem Nm.CmAt.done {a b : List (List UInt8)} {k} (h : Nm.CmAt a b k) (hd : ¬ (k < a.length /\ k < b.length)) : Nm.cmp a b = Nm.sgn a.length b.length := by
 rw [h.eq]
 have h1 := h.la
 have h2 := h.lb
 unfold Nm.sgn
 by_cases ha : k < a.length
 ·have hb : ¬ k < b.length := fun hb => hd ⟨ha, hb⟩
  rw [Nm.rev_drop a k ha, List.drop_of_length_le (l := b.reverse) (by simp; omega), Nm.cmpR, if_neg (by omega), if_pos (by omega)]
 ·rw [List.drop_of_length_le (l := a.reverse) (by simp; omega)]
  by_cases hb : k < b.length
  ·rw [Nm.rev_drop b k hb, Nm.cmpR, if_pos (by omega)]
  ·rw [List.drop_of_length_le (l := b.reverse) (by simp; omega), Nm.cmpR, if_neg (by omega), if_neg (by omega)]
set_option maxHeartbeats 1000000 in
theorem isNaN_any (x : Int) (w : World) : Calls Tryz.prog 55 #[.int .i64 x] w fun e w' => e = .returned (.bool false) /\ w = w' := by
 go_enter Tryz.func55, Tryz.ntmps55
 go_wp2
 go_ret
 exact ⟨rfl, rfl⟩
set_option maxHeartbeats 1000000 in
theorem cmpInt_any (x y : Int) (w : World) : Calls Tryz.prog 27 #[.int .i64 x, .int .i64 y] w fun e w' => e = .returned (.int .i64 (Nm.sgn x y)) /\ w = w' := by
 rcases Int.lt_trichotomy x y with h | h | h
 ·have H := Lib.hid (show Nm.sgn x y = -1 by unfold Nm.sgn; rw [if_pos h])
  go_enter Tryz.func27, Tryz.ntmps27
  go_wp2_with (go_at_call 55; refine (isNaN_any _ _).mono ?_; rintro e w1 ⟨rfl, rfl⟩)
  go_ret
  exact ⟨by rw [H.out]; rfl, rfl⟩
 ·subst h
  have H := Lib.hid (show Nm.sgn x x = 0 by unfold Nm.sgn; rw [if_neg (by omega), if_neg (by omega)])
  go_enter Tryz.func27, Tryz.ntmps27
  go_wp2_with (go_at_call 55; refine (isNaN_any _ _).mono ?_; rintro e w1 ⟨rfl, rfl⟩)
  go_ret
  exact ⟨by rw [H.out]; rfl, rfl⟩
 ·have H := Lib.hid (show Nm.sgn x y = 1 by unfold Nm.sgn; rw [if_neg (by omega), if_pos h])
  go_enter Tryz.func27, Tryz.ntmps27
  go_wp2_with (go_at_call 55; refine (isNaN_any _ _).mono ?_; rintro e w1 ⟨rfl, rfl⟩)
  go_ret
  exact ⟨by rw [H.out]; rfl, rfl⟩
set_option maxHeartbeats 1000000 in
theorem sign_any (x : Int) (w : World) : Calls Tryz.prog 46 #[.int .i64 x] w fun e w' => e = .returned (.int .i64 (Nm.sgn x 0)) /\ w = w' := by
 rcases Int.lt_trichotomy x 0 with h | h | h
 ·have H := Lib.hid (show Nm.sgn x 0 = -1 by unfold Nm.sgn; rw [if_pos h])
  go_enter Tryz.func46, Tryz.ntmps46
  go_wp2
  go_ret
  exact ⟨by rw [H.out]; rfl, rfl⟩
 ·subst h
  go_enter Tryz.func46, Tryz.ntmps46
  go_wp2
  go_ret
  exact ⟨rfl, rfl⟩
 ·have H := Lib.hid (show Nm.sgn x 0 = 1 by unfold Nm.sgn; rw [if_neg (by omega), if_pos h])
  go_enter Tryz.func46, Tryz.ntmps46
  go_wp2
  go_ret
  exact ⟨by rw [H.out]; rfl, rfl⟩
theorem Nm.sgn_sub (x y : Int) : Nm.sgn x y = Nm.sgn (x - y) 0 := by unfold Nm.sgn; split <;> split <;> (try split) <;> (try split) <;> omega
set_option maxHeartbeats 2000000 in
theorem nCompare_any (v u : Value) (a b : List (List UInt8)) (w : World) (hv : Rd v a w) (hu : Rd u b w) (ha : NB a) (hb : NB b) :
  Calls Tryz.prog 26 #[v, u] w (Gives (.int .i64 (Nm.cmp a b)) w) := by
 obtain ⟨o, cap, rfl, h1, h2⟩ := hv.form
 obtain ⟨o', cap', rfl, h1', h2'⟩ := hu.form
 have HC := Lib.hid hv.cells
 have HD := Lib.hid hu.cells
 have na : (a.length : Int) <= 1000 := by have := ha.1; omega
 have nb : (b.length : Int) <= 1000 := by have := hb.1; omega
 have GA := Lib.hid (show ∀ k (h : k < a.length), a[k].length <= 1000000 from fun k h => by have := ha.get h; omega)
 have GB := Lib.hid (show ∀ k (h : k < b.length), b[k].length <= 1000000 from fun k h => by have := hb.get h; omega)
 clear hv hu ha hb
 refine (callsIn_wide (n := 0)).1 ?_
 refine callsIn_of_wp Tryz.func26 rfl trivial ?_ rfl
 simp only [Tryz.ntmps26, List.size_toArray, List.length_cons, List.length_nil, Nat.reduceAdd, Nat.reduceSub, Array.replicate_succ, Array.replicate_zero, List.push_toArray, List.append_toArray, List.nil_append, List.cons_append]
 gi_wp2
 gi_loopw [12] (fun i wr => ∃ k : Nat, Nm.CmAt a b k /\ i = .int .i64 k /\ Below w.heap.size w wr) (fun i _ => a.length - (intOf i).toNat)
 case atStart => exact ⟨0, Nm.CmAt.start a b, rfl, Below.refl _ _⟩
 case round =>
  obtain ⟨k, hto, rfl, hb⟩ := hrel
  have hla := hto.la
  have hlb := hto.lb
  by_cases hlt : k < a.length /\ k < b.length
  ·obtain ⟨l1, l2⟩ := hlt
   obtain ⟨x, rfl, e1⟩ := HC.out _ hb (a.length - 1 - k) (by omega)
   obtain ⟨y, rfl, e2⟩ := HD.out _ hb (b.length - 1 - k) (by omega)
   have g1 := GA.out (a.length - 1 - k) (by omega)
   have g2 := GB.out (b.length - 1 - k) (by omega)
   obtain ⟨z, hz⟩ : ∃ z, cmpL (a[a.length - 1 - k]'(by omega)) (b[b.length - 1 - k]'(by omega)) = z := ⟨_, rfl⟩
   have HZ := Lib.hid hz
   gi_wp2_with fail
   refine drawnH [7, 15] (fun w' => w'.cell? (x.add (a.length - 1 - k)) = some (S (a[a.length - 1 - k]'(by omega))) /\ w'.cell? (y.add (b.length - 1 - k)) = some (S (b[b.length - 1 - k]'(by omega)))) 18 rfl (by kernel_rfl) ?_
   intro w' hw'
   have hS : w'.cell? (x.add (a.length - 1 - k)) = some (S (a[a.length - 1 - k]'(by omega))) /\ w'.cell? (y.add (b.length - 1 - k)) = some (S (b[b.length - 1 - k]'(by omega))) := by subst hw'; exact ⟨e1, e2⟩
   have hb' : Below w.heap.size w w' := by subst hw'; exact hb.drew
   clear hw'
   have hw1 : IntKind.i64.wrap ((a.length : Int) - 1) = a.length - 1 := IntWalk.i64_in _ (by omega)
   have hw2 : IntKind.i64.wrap ((a.length : Int) - 1 - k) = a.length - 1 - k := IntWalk.i64_in _ (by omega)
   have hw3 : IntKind.i64.wrap ((b.length : Int) - 1) = b.length - 1 := IntWalk.i64_in _ (by omega)
   have hw4 : IntKind.i64.wrap ((b.length : Int) - 1 - k) = b.length - 1 - k := IntWalk.i64_in _ (by omega)
   refine tP 0 ?qv0 (fun w1 _ => ?qy0) ?_
   case qy0 => go_simp; try rfl
   refine tP 1 ?qv1 (fun w1 _ => ?qy1) ?_
   case qy1 => go_simp; try rfl
   refine tP 2 ?qv2 (fun w1 _ => ?qy2) ?_
   case qy2 => go_simp; try rfl
   refine tP 3 ?qv3 (fun w1 _ => ?qy3) ?_
   case qy3 => go_simp; try rfl
   refine tP 4 ?qv4 (fun w1 _ => ?qy4) ?_
   case qy4 => go_simp; try rfl
   refine tP 5 ?qv5 (fun w1 _ => ?qy5) ?_
   case qy5 => go_simp; try rfl
   refine tP 6 ?qv6 (fun w1 _ => ?qy6) ?_
   case qy6 => (go_simp; try first | rfl | (rw [if_pos (by omega)]) | (rw [if_neg (by omega)]) | (rw [if_neg (by simp; omega)]) | (split <;> first | (exfalso; omega) | rfl))
   refine tP 8 ?qv8 (fun w1 _ => ?qy8) ?_
   case qy8 => go_simp; try rfl
   refine tP 9 ?qv9 (fun w1 _ => ?qy9) ?_
   case qy9 => go_simp; try rfl
   refine tP 10 ?qv10 (fun w1 _ => ?qy10) ?_
   case qy10 => go_simp; try rfl
   refine tP 11 ?qv11 (fun w1 _ => ?qy11) ?_
   case qy11 => go_simp; try rfl
   refine tP 12 ?qv12 (fun w1 _ => ?qy12) ?_
   case qy12 => go_simp; try rfl
   refine tP 13 ?qv13 (fun w1 _ => ?qy13) ?_
   case qy13 => go_simp; try rfl
   refine tP 14 ?qv14 (fun w1 _ => ?qy14) ?_
   case qy14 => (go_simp; try first | rfl | (rw [if_pos (by omega)]) | (rw [if_neg (by omega)]) | (rw [if_neg (by simp; omega)]) | (split <;> first | (exfalso; omega) | rfl))
   refine tH 7 ?qv7 hS (fun w1 ⟨c1, c2⟩ => ?qy7) ?_
   case qy7 => go_simp; try rfl
   refine tH 15 ?qv15 hS (fun w1 ⟨c1, c2⟩ => ?qy15) ?_
   case qy15 => go_simp; try rfl
   clear hw1 hw2 hw3 hw4
   refine oneH 16 (by rfl) (by kernel_rfl) (fun K hK => ?_)
   gi_wp2_with (gi_at_call 54; refine (callsIn_wide.2 (compare_any _ _ _ g1 g2)).mono ?_; rintro e w1 ⟨rfl, b1⟩; rw [HZ.out])
   have hb1 := below5 hb' b1
   refine hK _ _ (fun h => absurd h (by decide)) ?_
   clear hK K
   refine oneH 17 (by rfl) (by kernel_rfl) (fun K hK => ?_)
   gi_wp2_with fail
   refine hK _ _ (fun h => absurd h (by decide)) ?_
   clear hK K
   refine doneH (by kernel_rfl) ?_
   by_cases h0 : z = 0
   ·have HT := Lib.hid (hto.go l1 l2 (hz.trans h0))
    clear hto hz
    subst h0
    gi_wp2_with fail
    exact ⟨⟨k + 1, HT.out, by go_num, hb1⟩, by simp [intOf]; omega⟩
   ·have HF := Lib.hid (hto.stop l1 l2 (by rw [hz]; exact h0))
    have hz' : (z != 0) = true := by simpa using h0
    clear hto hz h0
    gi_wp2_with fail
    go_ret
    exact ⟨by rw [HF.out, HZ.out]; rfl, hb1⟩
  ·have HF := Lib.hid (hto.done hlt)
   have hlt' : (k : Int) < a.length -> ¬ ((k : Int) < b.length) := by omega
   clear hto
   gi_wp2_with (gi_at_call 27; refine (callsIn_wide.2 (cmpInt_any _ _ _)).mono ?_; rintro e w1 ⟨rfl, rfl⟩)
   go_ret
   exact ⟨by rw [HF.out]; rfl, hb⟩
set_option maxHeartbeats 2000000 in
theorem refCompareN_any (v u : Value) (a b : List (List UInt8)) (w : World) (hv : Rd v a w) (hu : Rd u b w) (ha : NB a) (hb : NB b) :
  Calls Tryz.prog 21 #[v, u] w (Gives (.int .i64 (Nm.cmp a b)) w) := by
 obtain ⟨o, cap, rfl, h1, h2⟩ := hv.form
 obtain ⟨o', cap', rfl, h1', h2'⟩ := hu.form
 have HC := Lib.hid hv.cells
 have HD := Lib.hid hu.cells
 have na : (a.length : Int) <= 1000 := by have := ha.1; omega
 have nb : (b.length : Int) <= 1000 := by have := hb.1; omega
 have GA := Lib.hid (show ∀ k (h : k < a.length), a[k].length <= 1000000 from fun k h => by have := ha.get h; omega)
 have GB := Lib.hid (show ∀ k (h : k < b.length), b[k].length <= 1000000 from fun k h => by have := hb.get h; omega)
 clear hv hu ha hb
 refine (callsIn_wide (n := 0)).1 ?_
 refine callsIn_of_wp Tryz.func21 rfl trivial ?_ rfl
 simp only [Tryz.ntmps21, List.size_toArray, List.length_cons, List.length_nil, Nat.reduceAdd, Nat.reduceSub, Array.replicate_succ, Array.replicate_zero, List.push_toArray, List.append_toArray, List.nil_append, List.cons_append]
 gi_wp2
 gi_loopw [5] (fun i wr => ∃ k : Nat, Nm.CmAt a b k /\ i = .int .i64 ((k : Int) + 1) /\ Below w.heap.size w wr) (fun i _ => a.length + 1 - (intOf i).toNat)
 case atStart => exact ⟨0, Nm.CmAt.start a b, rfl, Below.refl _ _⟩
 case round =>
  obtain ⟨k, hto, rfl, hb⟩ := hrel
  have hla := hto.la
  have hlb := hto.lb
  by_cases hlt : k < a.length /\ k < b.length
  ·obtain ⟨l1, l2⟩ := hlt
   obtain ⟨x, rfl, e1⟩ := HC.out _ hb (a.length - 1 - k) (by omega)
   obtain ⟨y, rfl, e2⟩ := HD.out _ hb (b.length - 1 - k) (by omega)
   have g1 := GA.out (a.length - 1 - k) (by omega)
   have g2 := GB.out (b.length - 1 - k) (by omega)
   obtain ⟨z, hz⟩ : ∃ z, cmpL (a[a.length - 1 - k]'(by omega)) (b[b.length - 1 - k]'(by omega)) = z := ⟨_, rfl⟩
   have HZ := Lib.hid hz
   gi_wp2_with fail
   refine drawnH [6, 13] (fun w' => w'.cell? (x.add (a.length - 1 - k)) = some (S (a[a.length - 1 - k]'(by omega))) /\ w'.cell? (y.add (b.length - 1 - k)) = some (S (b[b.length - 1 - k]'(by omega)))) 16 rfl (by kernel_rfl) ?_
   intro w' hw'
   have hS : w'.cell? (x.add (a.length - 1 - k)) = some (S (a[a.length - 1 - k]'(by omega))) /\ w'.cell? (y.add (b.length - 1 - k)) = some (S (b[b.length - 1 - k]'(by omega))) := by subst hw'; exact ⟨e1, e2⟩
   have hb' : Below w.heap.size w w' := by subst hw'; exact hb.drew
   clear hw'
   have hw2 : IntKind.i64.wrap ((a.length : Int) - (k + 1)) = a.length - 1 - k := (IntWalk.i64_in _ (by omega)).trans (by omega)
   have hw4 : IntKind.i64.wrap ((b.length : Int) - (k + 1)) = b.length - 1 - k := (IntWalk.i64_in _ (by omega)).trans (by omega)
   refine tP 0 ?qv0 (fun w1 _ => ?qy0) ?_
   case qy0 => go_simp; try rfl
   refine tP 1 ?qv1 (fun w1 _ => ?qy1) ?_
   case qy1 => go_simp; try rfl
   refine tP 2 ?qv2 (fun w1 _ => ?qy2) ?_
   case qy2 => go_simp; try rfl
   refine tP 3 ?qv3 (fun w1 _ => ?qy3) ?_
   case qy3 => go_simp; try rfl
   refine tP 4 ?qv4 (fun w1 _ => ?qy4) ?_
   case qy4 => go_simp; try rfl
   refine tP 5 ?qv5 (fun w1 _ => ?qy5) ?_
   case qy5 => (go_simp; try first | rfl | (rw [if_pos (by omega)]) | (rw [if_neg (by omega)]) | (rw [if_neg (by simp; omega)]) | (split <;> first | (exfalso; omega) | rfl))
   refine tP 7 ?qv7 (fun w1 _ => ?qy7) ?_
   case qy7 => go_simp; try rfl
   refine tP 8 ?qv8 (fun w1 _ => ?qy8) ?_
   case qy8 => go_simp; try rfl
   refine tP 9 ?qv9 (fun w1 _ => ?qy9) ?_
   case qy9 => go_simp; try rfl
   refine tP 10 ?qv10 (fun w1 _ => ?qy10) ?_
   case qy10 => go_simp; try rfl
   refine tP 11 ?qv11 (fun w1 _ => ?qy11) ?_
   case qy11 => go_simp; try rfl
   refine tP 12 ?qv12 (fun w1 _ => ?qy12) ?_
   case qy12 => (go_simp; try first | rfl | (rw [if_pos (by omega)]) | (rw [if_neg (by omega)]) | (rw [if_neg (by simp; omega)]) | (split <;> first | (exfalso; omega) | rfl))
   refine tH 6 ?qv6 hS (fun w1 ⟨c1, c2⟩ => ?qy6) ?_
   case qy6 => go_simp; try rfl
   refine tH 13 ?qv13 hS (fun w1 ⟨c1, c2⟩ => ?qy13) ?_
   case qy13 => go_simp; try rfl
   clear hw2 hw4
   refine oneH 14 (by rfl) (by kernel_rfl) (fun K hK => ?_)
   gi_wp2_with (gi_at_call 45; refine (callsIn_wide.2 (refCompare_any _ _ _ g1 g2)).mono ?_; rintro e w1 ⟨rfl, b1⟩; rw [HZ.out])
   have hb1 := below5 hb' b1
   refine hK _ _ (fun h => absurd h (by decide)) ?_
   clear hK K
   refine oneH 15 (by rfl) (by kernel_rfl) (fun K hK => ?_)
   gi_wp2_with fail
   refine hK _ _ (fun h => absurd h (by decide)) ?_
   clear hK K
   refine doneH (by kernel_rfl) ?_
   by_cases h0 : z = 0
   ·have HT := Lib.hid (hto.go l1 l2 (hz.trans h0))
    clear hto hz
    subst h0
    gi_wp2_with fail
    exact ⟨⟨k + 1, HT.out, by go_num, hb1⟩, by simp [intOf]; omega⟩
   ·have HF := Lib.hid (hto.stop l1 l2 (by rw [hz]; exact h0))
    have hz' : (z != 0) = true := by simpa using h0
    clear hto hz h0
    gi_wp2_with fail
    go_ret
    exact ⟨by rw [HF.out, HZ.out]; rfl, hb1⟩
  ·have HF := Lib.hid (hto.done hlt)
   have HSG := Lib.hid (Nm.sgn_sub a.length b.length)
   have hlt' : (k : Int) < a.length -> ¬ ((k : Int) < b.length) := by omega
   clear hto
   gi_wp2_with (gi_at_call 46; refine (callsIn_wide.2 (sign_any _ _)).mono ?_; rintro e w1 ⟨rfl, rfl⟩)
   all_goals go_ret
   all_goals exact ⟨by rw [HF.out, HSG.out]; rfl, hb⟩
end Go.Proofs.YtgmbefolgppmdaaGreatDoor
