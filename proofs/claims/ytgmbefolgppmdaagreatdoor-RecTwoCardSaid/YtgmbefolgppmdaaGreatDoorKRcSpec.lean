/- Records: plain functions and laws: the order, and a row in order, each once. -/
import Derived.Test.YtgmbefolgppmdaaGreatDoorKNmI
import Derived.Test.YtgmbefolgppmdaaGreatDoorKSrtP
namespace Go.Proofs.YtgmbefolgppmdaaGreatDoor
open Go.RowKit Go.Shelf
set_option maxRecDepth 100000
namespace Rc
structure PRec where
 owner : List (List UInt8)
 ttl : Nat
 type : Int
 names : List (List (List UInt8))
 nums : List Nat
 texts : List (List UInt8)
 raw : List UInt8
instance : Inhabited PRec := ⟨⟨[], 0, 0, [], [], [], []⟩⟩
def orI (x y : Int) : Int := if x ≠ 0 then x else y
def row {α : Type} (f : α -> α -> Int) : List α -> List α -> Int
 | [], [] => 0
 | [], _ :: _ => -1
 | _ :: _, [] => 1
 | x :: a, y :: b => if f x y ≠ 0 then f x y else row f a b
def cmpD (a b : PRec) : Int :=
 orI (Nm.sgn a.type b.type) (orI (row Nm.cmp a.names b.names) (orI (row (fun x y : Nat => Nm.sgn x y) a.nums b.nums) (orI (row Lib.compareBytes a.texts b.texts) (Lib.compareBytes a.raw b.raw))))
def cmp (a b : PRec) : Int := orI (Nm.cmp a.owner b.owner) (orI (Nm.sgn a.type b.type) (cmpD a b))
structure Cm {α : Type} (f : α -> α -> Int) : Prop where
 anti : ∀ a b, f b a = - f a b
 trans : ∀ {a b c}, f a b <= 0 -> f b c <= 0 -> f a c <= 0
variable {α β : Type} {f g : α -> α -> Int}
theorem Cm.refl (h : Cm f) (a : α) : f a a = 0 := by have := h.anti a a; omega
theorem Cm.left (h : Cm f) {a b : α} (e : f a b = 0) (c : α) : f a c <= 0 ↔ f b c <= 0 := by
 have := h.anti a b
 exact ⟨fun k => h.trans (a := b) (b := a) (by omega) k, fun k => h.trans (a := a) (b := b) (by omega) k⟩
theorem Cm.right (h : Cm f) {a b : α} (e : f a b = 0) (c : α) : f c a <= 0 ↔ f c b <= 0 := by
 have := h.anti a b
 exact ⟨fun k => h.trans k (by omega), fun k => h.trans k (by omega)⟩
theorem Cm.lt_le (h : Cm f) {a b c : α} (h1 : f a b < 0) (h2 : f b c <= 0) : f a c < 0 := by
 have e1 := h.trans (a := a) (b := b) (c := c) (by omega) h2
 have e2 : f a c ≠ 0 := fun e => by
  have := (h.right e b).2 h2
  have := h.anti a b
  omega
 omega
theorem Cm.le_lt (h : Cm f) {a b c : α} (h1 : f a b <= 0) (h2 : f b c < 0) : f a c < 0 := by
 have e1 := h.trans (a := a) (b := b) (c := c) h1 (by omega)
 have e2 : f a c ≠ 0 := fun e => by
  have := (h.left e b).1 h1
  have := h.anti b c
  omega
 omega
theorem Cm.zero (h : Cm f) {a b c : α} (h1 : f a b = 0) (h2 : f b c = 0) : f a c = 0 := by
 have e1 := h.trans (a := a) (b := b) (c := c) (by omega) (by omega)
 have a1 := h.anti a b
 have a2 := h.anti b c
 have a3 := h.anti a c
 have e2 := h.trans (a := c) (b := b) (c := a) (by omega) (by omega)
 omega
theorem Cm.or (hf : Cm f) (hg : Cm g) : Cm (fun a b => orI (f a b) (g a b)) := by
 refine ⟨fun a b => ?_, fun {a b c} h k => ?_⟩
 ·have h1 := hf.anti a b
  have h2 := hg.anti a b
  unfold orI
  split <;> split <;> omega
 ·unfold orI at h k ⊢
  by_cases h0 : f a b = 0
  ·rw [if_neg (by simpa using h0)] at h
   by_cases k0 : f b c = 0
   ·rw [if_neg (by simpa using k0)] at k
    rw [if_neg (by simpa using hf.zero h0 k0)]
    exact hg.trans h k
   ·rw [if_pos k0] at k
    have := hf.le_lt (a := a) (b := b) (c := c) (by omega) (by omega)
    rw [if_pos (by omega)]; omega
  ·rw [if_pos h0] at h
   have hk : f b c <= 0 := by
    by_cases k0 : f b c = 0
    ·omega
    ·rw [if_pos k0] at k; exact k
   have := hf.lt_le (a := a) (b := b) (c := c) (by omega) hk
   rw [if_pos (by omega)]; omega
theorem Cm.pull (hf : Cm f) (h : β -> α) : Cm (fun a b => f (h a) (h b)) := ⟨fun _ _ => hf.anti _ _, fun h1 h2 => hf.trans h1 h2⟩
theorem Cm.row (hf : Cm f) : Cm (row f) := by
 refine ⟨fun a => ?_, fun {a} => ?_⟩
 ·induction a with
  | nil => intro b; cases b <;> simp [Rc.row]
  | cons x a ih =>
   intro b
   cases b with
   | nil => simp [Rc.row]
   | cons y b =>
    have := hf.anti x y
    have := ih b
    simp only [Rc.row]
    split <;> split <;> omega
 ·induction a with
  | nil => intro b c h k; cases c <;> simp [Rc.row]
  | cons x a ih =>
   intro b c h k
   cases b with
   | nil => simp [Rc.row] at h
   | cons y b =>
    cases c with
    | nil => simp [Rc.row] at k
    | cons z c =>
     simp only [Rc.row] at h k ⊢
     by_cases h0 : f x y = 0
     ·rw [if_neg (by simpa using h0)] at h
      by_cases k0 : f y z = 0
      ·rw [if_neg (by simpa using k0)] at k
       rw [if_neg (by simpa using hf.zero h0 k0)]
       exact ih h k
      ·rw [if_pos k0] at k
       have := hf.le_lt (a := x) (b := y) (c := z) (by omega) (by omega)
       rw [if_pos (by omega)]; omega
     ·rw [if_pos h0] at h
      have hk : f y z <= 0 := by
       by_cases k0 : f y z = 0
       ·omega
       ·rw [if_pos k0] at k; exact k
      have := hf.lt_le (a := x) (b := y) (c := z) (by omega) hk
      rw [if_pos (by omega)]; omega
theorem sgn_cm : Cm (fun x y : Int => Nm.sgn x y) := by
 refine ⟨fun a b => ?_, fun {a b c} h k => ?_⟩
 ·unfold Nm.sgn; split <;> split <;> (try split) <;> (try split) <;> omega
 ·unfold Nm.sgn at *
  split at h <;> split at k <;> split <;> (try split) <;> (try split at h) <;> (try split at k) <;> omega
theorem bytes_cm : Cm Lib.compareBytes := ⟨fun a b => cmp_anti a b, fun h k => cmp_trans _ _ _ h k⟩
theorem name_cm : Cm Nm.cmp := ⟨fun a b => by have := Nm.cmpR_anti a.reverse b.reverse; unfold Nm.cmp; omega, fun h k => Nm.cmp_trans h k⟩
theorem cmpD_cm : Cm cmpD :=
 (sgn_cm.pull PRec.type).or ((name_cm.row.pull PRec.names).or (((sgn_cm.pull (fun n : Nat => (n : Int))).row.pull PRec.nums).or ((bytes_cm.row.pull PRec.texts).or (bytes_cm.pull PRec.raw))))
theorem cmp_cm : Cm cmp := (name_cm.pull PRec.owner).or ((sgn_cm.pull PRec.type).or cmpD_cm)
def lt (a b : PRec) : Bool := decide (cmp a b < 0)
theorem Cm.ord (hf : Cm f) : Srt.Ord (fun a b => decide (f a b < 0)) := by
 refine ⟨fun {a b} h => ?_, fun {a b c} h k => ?_⟩
 ·have := hf.anti a b
  simp only [decide_eq_true_eq, decide_eq_false_iff_not] at *; omega
 ·simp only [decide_eq_false_iff_not, Int.not_lt] at *
  have a1 := hf.anti a b
  have a2 := hf.anti b c
  have a3 := hf.anti a c
  have := hf.trans (a := c) (b := b) (c := a) (by omega) (by omega)
  omega
def join (a b : PRec) : PRec := { a with ttl := min a.ttl b.ttl }
def fewL : PRec -> List PRec -> List PRec
 | x, [] => [x]
 | x, y :: l => if cmp x y = 0 then fewL (join x y) l else x :: fewL y l
def few : List PRec -> List PRec
 | [] => []
 | x :: l => fewL x l
def put (x : PRec) : List PRec -> List PRec
 | [] => [x]
 | y :: l => if cmp y x < 0 then y :: put x l else if cmp y x = 0 then (if x.ttl < y.ttl then { y with ttl := x.ttl } else y) :: l else x :: y :: l
def refCanon (l : List PRec) : List PRec := l.foldl (fun out x => put x out) []
def canon (l : List PRec) : List PRec := few (Srt.srt lt l)
def addF (out : List PRec) (x : PRec) : List PRec := match out.getLast? with
 | none => [x]
 | some y => if cmp y x = 0 then out.dropLast ++ [join y x] else out ++ [x]
theorem foldl_addF : ∀ (l out : List PRec) (c : PRec), l.foldl addF (out ++ [c]) = out ++ fewL c l
 | [], out, c => rfl
 | y :: l, out, c => by
  have e : addF (out ++ [c]) y = if cmp c y = 0 then out ++ [join c y] else (out ++ [c]) ++ [y] := by simp [addF]
  rw [List.foldl_cons, e, fewL]
  split
  ·rw [foldl_addF l out (join c y)]
  ·rw [foldl_addF l (out ++ [c]) y]; simp
theorem few_foldl (l : List PRec) : l.foldl addF [] = few l := by
 cases l with
 | nil => rfl
 | cons x l => exact foldl_addF l [] x
end Rc
end Go.Proofs.YtgmbefolgppmdaaGreatDoor
