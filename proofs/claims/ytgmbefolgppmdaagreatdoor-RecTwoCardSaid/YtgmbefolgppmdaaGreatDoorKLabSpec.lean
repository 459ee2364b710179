/- What the functions of label compute, as plain functions on lists of octets. -/

namespace Go.Proofs.YtgmbefolgppmdaaGreatDoor.Lb
def marks : List UInt8 := [46, 92, 34, 40, 41, 59, 64, 36]
def esc (c : UInt8) : List UInt8 := [92, 48 + c / 100, 48 + c / 10 % 10, 48 + c % 10]
def textC (c : UInt8) : List UInt8 := if c.toNat <= 32 \/ 127 <= c.toNat then esc c else if c ∈ marks then [92, c] else [c]
def text (l : List UInt8) : List UInt8 := l.flatMap textC
theorem text_take_succ (l : List UInt8) (k : Nat) (h : k < l.length) : text (l.take (k + 1)) = text (l.take k) ++ textC l[k] := by
 unfold text; rw [List.take_succ_eq_append_getElem h, List.flatMap_append, List.flatMap_singleton]
theorem textC_len (c : UInt8) : (textC c).length <= 4 := by
 unfold textC; split
 ·simp [esc]
 ·split <;> simp
theorem text_len (l : List UInt8) : (text l).length <= 4 * l.length := by
 induction l with
 | nil => simp [text]
 | cons c r ih => have := textC_len c; simp only [text, List.flatMap_cons, List.length_append, List.length_cons] at *; omega
def refTextC (c : UInt8) : List UInt8 := if c ∈ marks then [92, c] else if 33 <= c.toNat /\ c.toNat <= 126 then [c] else esc c
theorem refTextC_eq : ∀ c : UInt8, refTextC c = textC c := by
 have h : ∀ n : Fin 256, refTextC (UInt8.ofFin n) = textC (UInt8.ofFin n) := by decide +kernel
 intro c; exact h c.toFin
def check (n : Nat) : Int := if n = 0 then 8 else if 63 < n then 3 else 0
def low (c : UInt8) : UInt8 := if 65 <= c.toNat /\ c.toNat <= 90 then c + 32 else c
def fold (l : List UInt8) : List UInt8 := l.map low
def foldTo (l : List UInt8) (k : Nat) : List UInt8 := fold (l.take k) ++ l.drop k
theorem foldTo_zero (l : List UInt8) : foldTo l 0 = l := by simp [foldTo, fold]
theorem foldTo_length (l : List UInt8) (k : Nat) : (foldTo l k).length = l.length := by simp [foldTo, fold]; omega
theorem foldTo_all (l : List UInt8) : foldTo l l.length = fold l := by simp [foldTo, fold]
theorem foldTo_get (l : List UInt8) (k : Nat) (h : k < l.length) : (foldTo l k)[k]'(by rw [foldTo_length]; exact h) = l[k] := by
 simp only [foldTo, fold]
 rw [List.getElem_append_right (by simp; omega)]
 simp [List.getElem_drop]
 congr 1; omega
theorem foldTo_succ (l : List UInt8) (k : Nat) (h : k < l.length) : foldTo l (k + 1) = (foldTo l k).set k (low l[k]) := by
 apply List.ext_getElem?
 intro i
 rw [List.getElem?_set, foldTo_length]
 simp only [foldTo, fold, List.map_take]
 by_cases e : k = i
 ·subst e
  rw [List.getElem?_append_left (by simp; omega)]
  simp [h]
 ·by_cases e2 : i < k
  ·rw [List.getElem?_append_left (by simp; omega), List.getElem?_append_left (by simp; omega)]
   rw [if_neg e]; simp [e2, show i < k + 1 by omega]
  ·rw [List.getElem?_append_right (by simp; omega), List.getElem?_append_right (by simp; omega)]
   simp [e]
   congr 1; omega
theorem foldTo_same (l : List UInt8) (k : Nat) (h : k < l.length) (hl : low l[k] = l[k]) : foldTo l (k + 1) = foldTo l k := by
 rw [foldTo_succ l k h, hl]
 have := foldTo_get l k h
 conv => rhs; rw [<- List.set_getElem_self (as := foldTo l k) (i := k) (by rw [foldTo_length]; exact h)]
 rw [this]
theorem low_not (c : UInt8) (h : ¬ (65 <= c.toNat /\ c.toNat <= 90)) : low c = c := by simp [low, h]
theorem low_nat (c : UInt8) (h : 65 <= c.toNat /\ c.toNat <= 90) : (low c).toNat = c.toNat + 32 := by simp [low, h, UInt8.toNat_add]; omega
abbrev isDig (c : UInt8) : Prop := 48 <= c.toNat /\ c.toNat <= 57
def num3 (a b c : UInt8) : Nat := 100 * (a.toNat - 48) + 10 * (b.toNat - 48) + (c.toNat - 48)
def escd : List UInt8 -> UInt8 × Nat × Int
 | [] => (0, 0, 2)
 | a :: r => if ¬ isDig a then (a, 1, 0) else match r with
  | b :: c :: _ => if isDig b /\ isDig c then (if 255 < num3 a b c then (0, 0, 7) else (UInt8.ofNat (num3 a b c), 3, 0)) else (0, 0, 2)
  | _ => (0, 0, 2)
def unF (bare : List UInt8) : Nat -> List UInt8 -> Except Int (List UInt8)
 | _, [] => .ok []
 | 0, _ :: _ => .ok []
 | n + 1, c :: r =>
  if c = 92 then (if (escd r).2.2 = 0 then (unF bare n (r.drop (escd r).2.1)).map ((escd r).1 :: ·) else .error (escd r).2.2)
  else if c ∈ bare then .error 2 else (unF bare n r).map (c :: ·)
def un (bare l : List UInt8) : Except Int (List UInt8) := unF bare l.length l
theorem un_nil (bare : List UInt8) : un bare [] = .ok [] := rfl
def pairOf : Except Int (List UInt8) -> List UInt8 × Int
 | .ok l => (l, 0)
 | .error e => ([], e)
def unesc (bare l : List UInt8) : List UInt8 × Int := pairOf (un bare l)
def parse (s : List UInt8) : List UInt8 × Int :=
 if (unesc [46] s).2 = 0 then (if check (unesc [46] s).1.length = 0 then ((unesc [46] s).1, 0) else ([], check (unesc [46] s).1.length)) else ([], (unesc [46] s).2)
def Ahead (bare l out rest : List UInt8) : Prop := un bare l = (un bare rest).map (out ++ ·)
theorem Ahead.start (bare l : List UInt8) : Ahead bare l [] l := by
 unfold Ahead; cases un bare l <;> rfl
theorem Ahead.step {bare l out rest rest' : List UInt8} {x : List UInt8} (h : Ahead bare l out rest) (h2 : un bare rest = (un bare rest').map (x ++ ·)) : Ahead bare l (out ++ x) rest' := by
 unfold Ahead at *; rw [h, h2]
 cases un bare rest' <;> simp [Except.map]
theorem Ahead.done {bare l out : List UInt8} (h : Ahead bare l out []) : unesc bare l = (out, 0) := by
 unfold unesc; rw [h, un_nil]; simp [Except.map, pairOf]
end Go.Proofs.YtgmbefolgppmdaaGreatDoor.Lb
