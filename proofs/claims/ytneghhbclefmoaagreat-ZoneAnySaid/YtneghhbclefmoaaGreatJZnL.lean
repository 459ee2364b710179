/- Zones: plain functions and laws. -/
import Derived.Test.YtneghhbclefmoaaGreatJRcL
namespace Go.Proofs.YtneghhbclefmoaaGreat
open Go.RowKit Go.Shelf
set_option maxRecDepth 100000

theorem Nm.under_drop {n o : List (List UInt8)} {i : Nat} (h : Nm.under n o = true) (hi : i ≤ n.length - o.length) : Nm.under (n.drop i) o = true := by
  have hl := Nm.under_le' h
  unfold Nm.under at h ⊢
  rw [Bool.and_eq_true, decide_eq_true_eq] at h ⊢
  refine ⟨by simp; omega, ?_⟩
  rw [List.drop_drop, List.length_drop]
  rw [show i + (n.length - i - o.length) = n.length - o.length by omega]
  exact h.2
theorem Nm.under_tail (n : List (List UInt8)) (i : Nat) : Nm.under n (n.drop i) = true := by
  have := Nm.under_app (n.take i) (n.drop i)
  rwa [List.take_append_drop] at this
theorem Nm.same_refl (n : List (List UInt8)) : Nm.same n n = true := by simp [Nm.same]
theorem Nm.same_len' {a b : List (List UInt8)} (h : Nm.same a b = true) : a.length = b.length := by
  have := congrArg List.length (eq_of_beq h)
  simpa [Nm.fold] using this

namespace Zn
abbrev Nam := List (List UInt8)
open Rc
def has (L : List PRec) (n : Nam) (t : Int) : Bool := L.any fun r => (r.type == t) && Nm.same r.owner n
/-- the first place of those below k at which there is a cut -/
def cutF (ol : Nat) (L : List PRec) (n : Nam) : Nat → Option Nat
  | 0 => none
  | k + 1 => if ol < (n.drop k).length && has L (n.drop k) 2 then some k else cutF ol L n k
def cutAt (o : Nam) (L : List PRec) (n : Nam) : Option Nat := if Nm.under n o then cutF o.length L n (n.length - o.length + 1) else none
def cut (o : Nam) (L : List PRec) (n : Nam) : Nam := match cutAt o L n with
  | none => []
  | some k => n.drop k
def isCut (o : Nam) (L : List PRec) (n : Nam) : Bool := (cutAt o L n).isSome
def wher (o : Nam) (L : List PRec) (n : Nam) : Int := if Nm.under n o then (match cutAt o L n with
  | none => 1
  | some k => if (n.drop k).length = n.length then 2 else 3) else 0
def exi (o : Nam) (L : List PRec) (n : Nam) : Bool := Nm.under n o && (decide (n.length = o.length) || L.any fun r => Nm.under r.owner n)
def enclF (o : Nam) (L : List PRec) (n : Nam) : Nat → Nat → Nat
  | 0, out => out
  | k + 1, out => if exi o L (n.drop k) then enclF o L n k k else out
def encl (o : Nam) (L : List PRec) (n : Nam) : Nam := if Nm.under n o then n.drop (enclF o L n (n.length - o.length + 1) n.length) else []
def star (o : Nam) (L : List PRec) (n : Nam) : Nam := [42] :: encl o L n
def isSrc (o : Nam) (L : List PRec) (n : Nam) : Bool := L.any fun r => Nm.same r.owner (star o L n)
def src (o : Nam) (L : List PRec) (n : Nam) : Nam := if isSrc o L n then star o L n else []

theorem cutF_drop (ol : Nat) (L : List PRec) (n : Nam) (i : Nat) : ∀ k, cutF ol L n (i + k) = match cutF ol L (n.drop i) k with
    | some j => some (i + j)
    | none => cutF ol L n i
  | 0 => rfl
  | k + 1 => by
    rw [← Nat.add_assoc, cutF, cutF, List.drop_drop]
    split
    · rfl
    · exact cutF_drop ol L n i k
theorem cutF_lt {ol : Nat} {L : List PRec} {n : Nam} : ∀ {k j : Nat}, cutF ol L n k = some j → j < k ∧ ol < (n.drop j).length ∧ has L (n.drop j) 2 = true
  | 0, _, h => by cases h
  | k + 1, j, h => by
    unfold cutF at h
    split at h
    · rename_i hc
      cases h
      simp only [Bool.and_eq_true, decide_eq_true_eq] at hc
      exact ⟨by omega, hc⟩
    · have := cutF_lt h
      exact ⟨by omega, this.2⟩
theorem cutAt_some {o : Nam} {L : List PRec} {n : Nam} {k : Nat} (h : cutAt o L n = some k) : Nm.under n o = true ∧ k ≤ n.length - o.length ∧ o.length < n.length - k ∧ has L (n.drop k) 2 = true := by
  unfold cutAt at h
  split at h
  · rename_i hu
    have := cutF_lt h
    rw [List.length_drop] at this
    exact ⟨hu, by omega, this.2⟩
  · cases h
/-- of a name above the cut there is none; of one below it the same -/
theorem cutAt_drop {o : Nam} {L : List PRec} {n : Nam} {i : Nat} (h : Nm.under n o = true) (hi : i ≤ n.length - o.length) :
    cutAt o L (n.drop i) = match cutAt o L n with
      | none => none
      | some k => if i ≤ k then some (k - i) else none := by
  have hl := Nm.under_le' h
  have e : n.length - o.length + 1 = i + ((n.drop i).length - o.length + 1) := by rw [List.length_drop]; omega
  unfold cutAt
  rw [if_pos h, if_pos (Nm.under_drop h hi), e, cutF_drop o.length L n i ((n.drop i).length - o.length + 1)]
  rcases hc : cutF o.length L (n.drop i) ((n.drop i).length - o.length + 1) with _ | j
  · try simp only
    rcases hd : cutF o.length L n i with _ | k
    · rfl
    · have := (cutF_lt hd).1
      try simp only
      rw [if_neg (by omega)]
  · try simp only
    rw [if_pos (by omega)]
    congr 1; omega
theorem exi_drop {o : Nam} {L : List PRec} {n : Nam} {i : Nat} (hi : i ≤ n.length - o.length) (h : exi o L n = true) : exi o L (n.drop i) = true := by
  unfold exi at h ⊢
  rw [Bool.and_eq_true, Bool.or_eq_true, decide_eq_true_eq, List.any_eq_true] at h ⊢
  obtain ⟨h1, h2⟩ := h
  refine ⟨Nm.under_drop h1 hi, ?_⟩
  rcases h2 with h2 | ⟨r, h3, h4⟩
  · left
    have : i = 0 := by omega
    subst this; simpa using h2
  · exact .inr ⟨r, h3, Nm.under_trans h4 (Nm.under_tail n i)⟩
theorem wher_above {o : Nam} {L : List PRec} {n : Nam} {i k : Nat} (hc : cutAt o L n = some k) (hi : i ≤ n.length - o.length) (hk : k < i) : wher o L (n.drop i) = 1 := by
  obtain ⟨h1, h2, h3, h4⟩ := cutAt_some hc
  unfold wher
  rw [if_pos (Nm.under_drop h1 hi), cutAt_drop h1 hi, hc]
  try simp only
  rw [if_neg (by omega)]
theorem cutAt_cut {o : Nam} {L : List PRec} {n : Nam} {k : Nat} (hc : cutAt o L n = some k) : cutAt o L (n.drop k) = some 0 := by
  obtain ⟨h1, h2, h3, h4⟩ := cutAt_some hc
  rw [cutAt_drop h1 h2, hc]
  simp
theorem wher_cut {o : Nam} {L : List PRec} {n : Nam} {k : Nat} (hc : cutAt o L n = some k) : wher o L (n.drop k) = 2 := by
  obtain ⟨h1, h2, h3, h4⟩ := cutAt_some hc
  unfold wher
  rw [if_pos (Nm.under_drop h1 h2), cutAt_cut hc]
  simp
theorem wher_is {o : Nam} {L : List PRec} {n : Nam} {k : Nat} (hc : cutAt o L n = some k) : (wher o L n == 2) = Nm.same n (n.drop k) := by
  obtain ⟨h1, h2, h3, h4⟩ := cutAt_some hc
  unfold wher
  rw [if_pos h1, hc]
  try simp only
  rcases Nat.eq_zero_or_pos k with rfl | hk
  · simp [Nm.same_refl]
  · rw [if_neg (by simp; omega), Bool.eq_iff_iff]
    constructor
    · intro h; simp at h
    · intro h
      have := Nm.same_len' h
      simp at this; omega
theorem wher_none {o : Nam} {L : List PRec} {n : Nam} (h : Nm.under n o = true) (hc : cutAt o L n = none) : wher o L n = 1 := by
  unfold wher; rw [if_pos h, hc]
/-! ### what encloses -/
theorem enclF_up {o : Nam} {L : List PRec} {n : Nam} (x : List UInt8) (hn : exi o L (x :: n) = false) : ∀ k out, enclF o L (x :: n) (k + 1) (out + 1) = enclF o L n k out + 1
  | 0, out => by
    simp only [enclF, List.drop_zero, hn]; rfl
  | k + 1, out => by
    rw [enclF, List.drop_succ_cons]
    conv => rhs; rw [enclF]
    split
    · exact enclF_up x hn k k
    · rfl
theorem exi_up {o : Nam} {L : List PRec} {n : Nam} (x : List UInt8) (hu : Nm.under n o = true) (hn : exi o L n = false) : exi o L (x :: n) = false := by
  rcases h : exi o L (x :: n) with _ | _
  · rfl
  · have hl := Nm.under_le' hu
    have := exi_drop (i := 1) (by simp; omega) h
    rw [List.drop_succ_cons, List.drop_zero, hn] at this; cases this
theorem under_up {o n : Nam} (x : List UInt8) (hu : Nm.under n o = true) : Nm.under (x :: n) o = true := Nm.under_trans (Nm.under_app [x] n) hu
theorem encl_up {o : Nam} {L : List PRec} {n : Nam} (x : List UInt8) (hu : Nm.under n o = true) (hn : exi o L n = false) : encl o L (x :: n) = encl o L n := by
  have hl := Nm.under_le' hu
  unfold encl
  rw [if_pos hu, if_pos (under_up x hu), List.length_cons, show n.length + 1 - o.length + 1 = (n.length - o.length + 1) + 1 by omega, enclF_up x (exi_up x hu hn), List.drop_succ_cons]
theorem enclF_exi {o : Nam} {L : List PRec} {n : Nam} : ∀ k out, exi o L (n.drop out) = true → exi o L (n.drop (enclF o L n k out)) = true
  | 0, _, h => h
  | k + 1, out, h => by
    unfold enclF
    split
    · rename_i hc; exact enclF_exi k k hc
    · exact h
theorem exi_top {o : Nam} {L : List PRec} {n : Nam} (hu : Nm.under n o = true) : exi o L (n.drop (n.length - o.length)) = true := by
  have hl := Nm.under_le' hu
  unfold exi
  rw [Nm.under_drop hu (Nat.le_refl _), Bool.true_and, Bool.or_eq_true, decide_eq_true_eq]
  left; simp; omega
theorem encl_exi {o : Nam} {L : List PRec} {n : Nam} (hu : Nm.under n o = true) : exi o L (encl o L n) = true := by
  unfold encl
  rw [if_pos hu, enclF, if_pos (exi_top hu)]
  exact enclF_exi _ _ (exi_top hu)
theorem enclF_le {o : Nam} {L : List PRec} {n : Nam} : ∀ k out, k ≤ n.length → out ≤ n.length → enclF o L n k out ≤ n.length
  | 0, _, _, h => h
  | k + 1, out, h1, h2 => by
    unfold enclF
    split
    · exact enclF_le k k (by omega) (by omega)
    · exact h2
theorem encl_len (o : Nam) (L : List PRec) (n : Nam) : (encl o L n).length ≤ n.length := by
  unfold encl
  split
  · simp
  · simp
/-! ### rows alike -/
theorem has_same {a b : List PRec} (h : sameRow a b = true) (n : Nam) (t : Int) : has a n t = has b n t := by
  refine sameRow_any' (fun x y e => ?_) h
  rw [cmp_type e]; unfold Nm.same; rw [cmp_owner e]
theorem cutF_same {a b : List PRec} (h : sameRow a b = true) (ol : Nat) (n : Nam) : ∀ k, cutF ol a n k = cutF ol b n k
  | 0 => rfl
  | k + 1 => by rw [cutF, cutF, has_same h, cutF_same h ol n k]
theorem wher_same {a b : List PRec} (h : sameRow a b = true) (o n : Nam) : wher o a n = wher o b n := by
  unfold wher cutAt
  rw [cutF_same h]
theorem under_fold {a b : Nam} (h : Nm.fold a = Nm.fold b) (n : Nam) : Nm.under a n = Nm.under b n := by
  rw [Bool.eq_iff_iff, Nm.under_iff, Nm.under_iff, h]
theorem exi_same {a b : List PRec} (h : sameRow a b = true) (o n : Nam) : exi o a n = exi o b n := by
  unfold exi
  rw [sameRow_any' (fun x y e => under_fold (cmp_owner e) n) h]
end Zn
end Go.Proofs.YtneghhbclefmoaaGreat
