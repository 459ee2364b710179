/- Zones: plain functions and laws. -/
import Derived.Test.YtneghhbclefmoaaGreatKRcL
namespace Go.Proofs.YtneghhbclefmoaaGreat
open Go.RowKit Go.Shelf
set_option maxRecDepth 100000
theorem Nm.under_drop {n o : List (List UInt8)} {i : Nat} (h : Nm.under n o = true) (hi : i <= n.length - o.length) : Nm.under (n.drop i) o = true := by
 have hl := Nm.under_le' h
 unfold Nm.under at h ⊢
 rw [Bool.and_eq_true, decide_eq_true_eq] at h ⊢
 refine ⟨by simp; omega, ?_⟩
 rw [List.drop_drop, List.length_drop]
 rw [show i + (n.length - i - o.length) = n.length - o.length by omega]
 exact h.2
namespace Zn
abbrev Nam := List (List UInt8)
open Rc
def has (L : List PRec) (n : Nam) (t : Int) : Bool := L.any fun r => (r.type == t) && Nm.same r.owner n
def cutF (ol : Nat) (L : List PRec) (n : Nam) : Nat -> Option Nat
 | 0 => none
 | k + 1 => if ol < (n.drop k).length && has L (n.drop k) 2 then some k else cutF ol L n k
def cutAt (o : Nam) (L : List PRec) (n : Nam) : Option Nat := if Nm.under n o then cutF o.length L n (n.length - o.length + 1) else none
def cut (o : Nam) (L : List PRec) (n : Nam) : Nam := match cutAt o L n with
 | none => []
 | some k => n.drop k
def isCut (o : Nam) (L : List PRec) (n : Nam) : Bool := (cutAt o L n).isSome
def wher (o : Nam) (L : List PRec) (n : Nam) : Int := if Nm.under n o then (match cutAt o L n with
 | none => 1
 | some k => if (n.drop k).length = n.length then 2 else 3) else 0
def exi (o : Nam) (L : List PRec) (n : Nam) : Bool := Nm.under n o && (decide (n.length = o.length) || L.any fun r => Nm.under r.owner n)
def enclF (o : Nam) (L : List PRec) (n : Nam) : Nat -> Nat -> Nat
 | 0, out => out
 | k + 1, out => if exi o L (n.drop k) then enclF o L n k k else out
def encl (o : Nam) (L : List PRec) (n : Nam) : Nam := if Nm.under n o then n.drop (enclF o L n (n.length - o.length + 1) n.length) else []
def star (o : Nam) (L : List PRec) (n : Nam) : Nam := [42] :: encl o L n
def isSrc (o : Nam) (L : List PRec) (n : Nam) : Bool := L.any fun r => Nm.same r.owner (star o L n)
def src (o : Nam) (L : List PRec) (n : Nam) : Nam := if isSrc o L n then star o L n else []
theorem cutF_drop (ol : Nat) (L : List PRec) (n : Nam) (i : Nat) : ∀ k, cutF ol L n (i + k) = match cutF ol L (n.drop i) k with
  | some j => some (i + j)
  | none => cutF ol L n i
 | 0 => rfl
 | k + 1 => by
  rw [<- Nat.add_assoc, cutF, cutF, List.drop_drop]
  split
  ·rfl
  ·exact cutF_drop ol L n i k
theorem cutF_lt {ol : Nat} {L : List PRec} {n : Nam} : ∀ {k j : Nat}, cutF ol L n k = some j -> j < k /\ ol < (n.drop j).length /\ has L (n.drop j) 2 = true
 | 0, _, h => by cases h
 | k + 1, j, h => by
  unfold cutF at h
  split at h
  ·rename_i hc
   cases h
   simp only [Bool.and_eq_true, decide_eq_true_eq] at hc
   exact ⟨by omega, hc⟩
  ·have := cutF_lt h
   exact ⟨by omega, this.2⟩
theorem cutAt_some {o : Nam} {L : List PRec} {n : Nam} {k : Nat} (h : cutAt o L n = some k) : Nm.under n o = true /\ k <= n.length - o.length /\ o.length < n.length - k /\ has L (n.drop k) 2 = true := by
 unfold cutAt at h
 split at h
 ·rename_i hu
  have := cutF_lt h
  rw [List.length_drop] at this
  exact ⟨hu, by omega, this.2⟩
 ·cases h
theorem cutAt_drop {o : Nam} {L : List PRec} {n : Nam} {i : Nat} (h : Nm.under n o = true) (hi : i <= n.length - o.length) :
  cutAt o L (n.drop i) = match cutAt o L n with
   | none => none
   | some k => if i <= k then some (k - i) else none := by
 have hl := Nm.under_le' h
 have e : n.length - o.length + 1 = i + ((n.drop i).length - o.length + 1) := by rw [List.length_drop]; omega
 unfold cutAt
 rw [if_pos h, if_pos (Nm.under_drop h hi), e, cutF_drop o.length L n i ((n.drop i).length - o.length + 1)]
 rcases hc : cutF o.length L (n.drop i) ((n.drop i).length - o.length + 1) with _ | j
 ·try simp only
  rcases hd : cutF o.length L n i with _ | k
  ·rfl
  ·have := (cutF_lt hd).1
   try simp only
   rw [if_neg (by omega)]
 ·try simp only
  rw [if_pos (by omega)]
  congr 1; omega
theorem wher_none {o : Nam} {L : List PRec} {n : Nam} (h : Nm.under n o = true) (hc : cutAt o L n = none) : wher o L n = 1 := by
 unfold wher; rw [if_pos h, hc]
theorem under_fold {a b : Nam} (h : Nm.fold a = Nm.fold b) (n : Nam) : Nm.under a n = Nm.under b n := by
 rw [Bool.eq_iff_iff, Nm.under_iff, Nm.under_iff, h]
end Zn
end Go.Proofs.YtneghhbclefmoaaGreat
