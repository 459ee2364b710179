/- Types of records: plain functions and laws. -/
import Derived.Test.YtjhibbjafjhhjaaDoorKTxB
import Derived.Test.YtjhibbjafjhhjaaDoorKLabSpec
namespace Go.Proofs.YtjhibbjafjhhjaaDoor
open Go.RowKit Go.Shelf
set_option maxRecDepth 100000
namespace Ty
def typeOf (f : List UInt8) : Option Int := (names.find? fun p => Lb.fold p.2 == f).map (·.1)
def dig (c : UInt8) : Bool := decide (48 <= c.toNat /\ c.toNat <= 57)
def step (n : Nat) (c : UInt8) : Nat := 10 * n + (c.toNat - 48)
def val (s : List UInt8) : Nat := s.foldl step 0
def dec (s : List UInt8) (bound : Nat) : Nat × Int :=
 if s = [] \/ s.all dig = false \/ (s.head? = some 48 /\ s ≠ [48]) then (0, 2) else if bound < val s then (0, 7) else (val s, 0)
def cut (f : List UInt8) : List UInt8 × Bool := if f.take 4 = [116, 121, 112, 101] then (f.drop 4, true) else (f, false)
def rest (f : List UInt8) : Int × Int :=
 if (cut f).2 = false \/ (dec (cut f).1 65535).2 = 2 then (0, 6) else if (dec (cut f).1 65535).2 ≠ 0 \/ (dec (cut f).1 65535).1 = 0 then (0, 7) else (((dec (cut f).1 65535).1 : Int), 0)
def parse (s : List UInt8) : Int × Int := match typeOf (Lb.fold s) with
 | some t => (t, 0)
 | none => rest (Lb.fold s)
theorem val_snoc (s : List UInt8) (c : UInt8) : val (s ++ [c]) = step (val s) c := by simp [val]
theorem decText_dig (n : Nat) : (Lib.decDigits n).all dig = true := by
 induction n using Nat.strongRecOn with
 | _ n ih =>
  rw [Lib.decDigits]
  split
  ·rename_i h
   simp only [List.all_cons, List.all_nil, Bool.and_true, dig, decide_eq_true_eq]
   have : (UInt8.ofNat (48 + n)).toNat = 48 + n := by rw [UInt8.toNat_ofNat']; omega
   omega
  ·rw [List.all_append, ih (n / 10) (by omega)]
   simp only [List.all_cons, List.all_nil, Bool.and_true, Bool.true_and, dig, decide_eq_true_eq]
   have : (UInt8.ofNat (48 + n % 10)).toNat = 48 + n % 10 := by rw [UInt8.toNat_ofNat']; omega
   omega
theorem decText_val (n : Nat) : val (Lib.decDigits n) = n := by
 induction n using Nat.strongRecOn with
 | _ n ih =>
  rw [Lib.decDigits]
  split
  ·rename_i h
   have : (UInt8.ofNat (48 + n)).toNat = 48 + n := by rw [UInt8.toNat_ofNat']; omega
   simp only [val, step, List.foldl_cons, List.foldl_nil, this]; omega
  ·rw [val_snoc, ih (n / 10) (by omega), step]
   have : (UInt8.ofNat (48 + n % 10)).toNat = 48 + n % 10 := by rw [UInt8.toNat_ofNat']; omega
   rw [this]; omega
theorem decText_ne (n : Nat) : Lib.decDigits n ≠ [] := by rw [Lib.decDigits]; split <;> simp
theorem decText_head (n : Nat) (h : 0 < n) : (Lib.decDigits n).head? ≠ some 48 := by
 induction n using Nat.strongRecOn with
 | _ n ih =>
  rw [Lib.decDigits]
  split
  ·rename_i h9
   simp only [List.head?_cons, ne_eq, Option.some.injEq]
   intro e
   have := congrArg UInt8.toNat e
   rw [UInt8.toNat_ofNat'] at this
   have h48 : (48 : UInt8).toNat = 48 := rfl
   omega
  ·have := ih (n / 10) (by omega) (by omega)
   rcases hd : Lib.decDigits (n / 10) with _ | ⟨c, l⟩
   ·exact absurd hd (decText_ne _)
   ·rw [hd] at this; simpa using this
theorem dig_low {c : UInt8} (h : dig c = true) : Lb.low c = c := by
 simp only [dig, decide_eq_true_eq] at h
 unfold Lb.low; rw [if_neg (by omega)]
theorem fold_dig : ∀ {s : List UInt8}, s.all dig = true -> Lb.fold s = s
 | [], _ => rfl
 | c :: s, h => by
  simp only [List.all_cons, Bool.and_eq_true] at h
  have := fold_dig h.2
  unfold Lb.fold at this ⊢
  rw [List.map_cons, this, dig_low h.1]
theorem rest_text (t : Nat) (h : 1 <= t) (h' : t <= 65535) : rest ([116, 121, 112, 101] ++ Lib.decDigits t) = ((t : Int), 0) := by
 have hd : dec (Lib.decDigits t) 65535 = (t, 0) := by
  unfold dec
  rw [if_neg, if_neg]
  ·rw [decText_val]
  ·rw [decText_val]; omega
  ·rintro (h2 | h2 | h2)
   ·exact decText_ne t h2
   ·rw [decText_dig] at h2; cases h2
   ·exact decText_head t (by omega) h2.1
 have hc : cut ([116, 121, 112, 101] ++ Lib.decDigits t) = (Lib.decDigits t, true) := by simp [cut]
 unfold rest
 rw [hc]
 simp only [hd]
 rw [if_neg (by simp), if_neg (by simp; omega)]
theorem typeOf_type (l : List UInt8) (h : l ≠ []) : typeOf ([116, 121, 112, 101] ++ l) = none := by
 rcases l with _ | ⟨c, l⟩
 ·exact absurd rfl h
 ·simp [typeOf, names, Lb.fold, Lb.low]
theorem nameOf_mem {t : Int} {s : List UInt8} (h : nameOf t = some s) : (t, s) ∈ names := by
 unfold nameOf at h
 rcases hf : names.find? (fun p => p.1 == t) with _ | ⟨t', s'⟩
 ·rw [hf] at h; simp at h
 ·rw [hf] at h
  simp only [Option.map_some, Option.some.injEq] at h
  have h1 := List.find?_some hf
  have h2 := List.mem_of_find?_eq_some hf
  simp only [beq_iff_eq] at h1
  subst h h1
  exact h2
theorem typeOf_name : ∀ p ∈ names, typeOf (Lb.fold p.2) = some p.1 := by decide
theorem parse_text (t : Nat) (h : 1 <= t) (h' : t <= 65535) : parse (text t) = ((t : Int), 0) := by
 unfold text
 rcases hn : nameOf t with _ | s
 ·simp only []
  have hf : Lb.fold ([84, 89, 80, 69] ++ Lib.decDigits t) = [116, 121, 112, 101] ++ Lib.decDigits t := by
   have := fold_dig (decText_dig t)
   unfold Lb.fold at this ⊢
   rw [List.map_append, this]; rfl
  unfold parse
  rw [hf, typeOf_type _ (decText_ne t)]
  exact rest_text t h h'
 ·have := typeOf_name _ (nameOf_mem hn)
  unfold parse
  simp only [] at this ⊢
  rw [this]
end Ty
end Go.Proofs.YtjhibbjafjhhjaaDoor
