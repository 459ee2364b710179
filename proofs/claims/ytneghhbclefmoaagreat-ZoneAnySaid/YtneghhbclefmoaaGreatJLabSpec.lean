/- What the functions of label compute, as plain functions on lists of octets. -/

namespace Go.Proofs.YtneghhbclefmoaaGreat.Lb

def marks : List UInt8 := [46, 92, 34, 40, 41, 59, 64, 36]
def esc (c : UInt8) : List UInt8 := [92, 48 + c / 100, 48 + c / 10 % 10, 48 + c % 10]
def textC (c : UInt8) : List UInt8 := if c.toNat ≤ 32 ∨ 127 ≤ c.toNat then esc c else if c ∈ marks then [92, c] else [c]
def text (l : List UInt8) : List UInt8 := l.flatMap textC
theorem text_take_succ (l : List UInt8) (k : Nat) (h : k < l.length) : text (l.take (k + 1)) = text (l.take k) ++ textC l[k] := by
  unfold text; rw [List.take_succ_eq_append_getElem h, List.flatMap_append, List.flatMap_singleton]
theorem textC_len (c : UInt8) : (textC c).length ≤ 4 := by
  unfold textC; split
  · simp [esc]
  · split <;> simp
theorem text_len (l : List UInt8) : (text l).length ≤ 4 * l.length := by
  induction l with
  | nil => simp [text]
  | cons c r ih => have := textC_len c; simp only [text, List.flatMap_cons, List.length_append, List.length_cons] at *; omega

/-- the reference's text -/
def refTextC (c : UInt8) : List UInt8 := if c ∈ marks then [92, c] else if 33 ≤ c.toNat ∧ c.toNat ≤ 126 then [c] else esc c
theorem refTextC_eq : ∀ c : UInt8, refTextC c = textC c := by
  have h : ∀ n : Fin 256, refTextC (UInt8.ofFin n) = textC (UInt8.ofFin n) := by decide +kernel
  intro c; exact h c.toFin

def check (n : Nat) : Int := if n = 0 then 8 else if 63 < n then 3 else 0

def low (c : UInt8) : UInt8 := if 65 ≤ c.toNat ∧ c.toNat ≤ 90 then c + 32 else c
def fold (l : List UInt8) : List UInt8 := l.map low
/-- the first k small -/
def foldTo (l : List UInt8) (k : Nat) : List UInt8 := fold (l.take k) ++ l.drop k
theorem foldTo_zero (l : List UInt8) : foldTo l 0 = l := by simp [foldTo, fold]
theorem foldTo_length (l : List UInt8) (k : Nat) : (foldTo l k).length = l.length := by simp [foldTo, fold]; omega
theorem foldTo_all (l : List UInt8) : foldTo l l.length = fold l := by simp [foldTo, fold]
theorem foldTo_get (l : List UInt8) (k : Nat) (h : k < l.length) : (foldTo l k)[k]'(by rw [foldTo_length]; exact h) = l[k] := by
  simp only [foldTo, fold]
  rw [List.getElem_append_right (by simp; omega)]
  simp [List.getElem_drop]
  congr 1; omega
theorem foldTo_succ (l : List UInt8) (k : Nat) (h : k < l.length) : foldTo l (k + 1) = (foldTo l k).set k (low l[k]) := by
  apply List.ext_getElem?
  intro i
  rw [List.getElem?_set, foldTo_length]
  simp only [foldTo, fold, List.map_take]
  by_cases e : k = i
  · subst e
    rw [List.getElem?_append_left (by simp; omega)]
    simp [h]
  · by_cases e2 : i < k
    · rw [List.getElem?_append_left (by simp; omega), List.getElem?_append_left (by simp; omega)]
      rw [if_neg e]; simp [e2, show i < k + 1 by omega]
    · rw [List.getElem?_append_right (by simp; omega), List.getElem?_append_right (by simp; omega)]
      simp [e]
      congr 1; omega
theorem foldTo_same (l : List UInt8) (k : Nat) (h : k < l.length) (hl : low l[k] = l[k]) : foldTo l (k + 1) = foldTo l k := by
  rw [foldTo_succ l k h, hl]
  have := foldTo_get l k h
  conv => rhs; rw [← List.set_getElem_self (as := foldTo l k) (i := k) (by rw [foldTo_length]; exact h)]
  rw [this]
theorem low_not (c : UInt8) (h : ¬ (65 ≤ c.toNat ∧ c.toNat ≤ 90)) : low c = c := by simp [low, h]
theorem low_nat (c : UInt8) (h : 65 ≤ c.toNat ∧ c.toNat ≤ 90) : (low c).toNat = c.toNat + 32 := by simp [low, h, UInt8.toNat_add]; omega

/-! ### escapes, read -/
abbrev isDig (c : UInt8) : Prop := 48 ≤ c.toNat ∧ c.toNat ≤ 57
def num3 (a b c : UInt8) : Nat := 100 * (a.toNat - 48) + 10 * (b.toNat - 48) + (c.toNat - 48)
/-- what stands behind a stroke: the octet, how many signs, the error -/
def escd : List UInt8 → UInt8 × Nat × Int
  | [] => (0, 0, 2)
  | a :: r => if ¬ isDig a then (a, 1, 0) else match r with
    | b :: c :: _ => if isDig b ∧ isDig c then (if 255 < num3 a b c then (0, 0, 7) else (UInt8.ofNat (num3 a b c), 3, 0)) else (0, 0, 2)
    | _ => (0, 0, 2)
theorem escd_not {a : UInt8} {r : List UInt8} (h : ¬ isDig a) : escd (a :: r) = (a, 1, 0) := by
  simp only [escd]; rw [if_pos h]
theorem escd_three {a b c : UInt8} {r : List UInt8} (ha : isDig a) (hb : isDig b) (hc : isDig c) : escd (a :: b :: c :: r) = if 255 < num3 a b c then (0, 0, 7) else (UInt8.ofNat (num3 a b c), 3, 0) := by
  simp only [escd]; rw [if_neg (fun h => h ha), if_pos ⟨hb, hc⟩]
theorem escd_some {a : UInt8} {r : List UInt8} (ha : isDig a) (hr : ∀ b c t, r = b :: c :: t → ¬ (isDig b ∧ isDig c)) : escd (a :: r) = (0, 0, 2) := by
  simp only [escd]; rw [if_neg (fun h => h ha)]
  match r, hr with
  | [], _ => rfl
  | [_], _ => rfl
  | b :: c :: t, hr => simp only; rw [if_neg (hr b c t rfl)]
theorem num3_le (a b c : UInt8) (ha : isDig a) (hb : isDig b) (hc : isDig c) : ((num3 a b c : Nat) : Int) = 100 * (a.toNat - 48) + 10 * (b.toNat - 48) + (c.toNat - 48) := by
  unfold num3; obtain ⟨_, _⟩ := ha; obtain ⟨_, _⟩ := hb; obtain ⟨_, _⟩ := hc; omega
theorem escd_len (r : List UInt8) : (escd r).2.1 ≤ r.length := by
  unfold escd; repeat' split
  all_goals simp
theorem escd_err (r : List UInt8) : 0 ≤ (escd r).2.2 ∧ (escd r).2.2 ≤ 7 := by
  unfold escd; repeat' split
  all_goals simp
/-- a text's escapes read; 'bare': what may not stand bare -/
def unF (bare : List UInt8) : Nat → List UInt8 → Except Int (List UInt8)
  | _, [] => .ok []
  | 0, _ :: _ => .ok []
  | n + 1, c :: r =>
    if c = 92 then (if (escd r).2.2 = 0 then (unF bare n (r.drop (escd r).2.1)).map ((escd r).1 :: ·) else .error (escd r).2.2)
    else if c ∈ bare then .error 2 else (unF bare n r).map (c :: ·)
theorem unF_fuel (bare : List UInt8) : ∀ (n m : Nat) (l : List UInt8), l.length ≤ n → l.length ≤ m → unF bare n l = unF bare m l := by
  intro n
  induction n with
  | zero => intro m l h1 h2; have : l = [] := by simpa using h1
            subst this; cases m <;> rfl
  | succ n ih =>
    intro m l h1 h2
    cases l with
    | nil => cases m <;> rfl
    | cons c r =>
      cases m with
      | zero => simp at h2
      | succ m =>
        simp only [List.length_cons, Nat.add_le_add_iff_right] at h1 h2
        simp only [unF]
        rw [ih m r h1 h2, ih m (r.drop (escd r).2.1) (by simp; omega) (by simp; omega)]
def un (bare l : List UInt8) : Except Int (List UInt8) := unF bare l.length l
theorem un_nil (bare : List UInt8) : un bare [] = .ok [] := rfl
theorem un_esc (bare r : List UInt8) (h : (escd r).2.2 = 0) : un bare (92 :: r) = (un bare (r.drop (escd r).2.1)).map ((escd r).1 :: ·) := by
  unfold un; rw [List.length_cons, unF, if_pos rfl, if_pos h, unF_fuel bare r.length _ _ (by simp) (Nat.le_refl _)]
theorem un_err (bare r : List UInt8) (h : (escd r).2.2 ≠ 0) : un bare (92 :: r) = .error (escd r).2.2 := by
  unfold un; rw [List.length_cons, unF, if_pos rfl, if_neg h]
theorem un_bare (bare r : List UInt8) (c : UInt8) (h : c ≠ 92) (hb : c ∈ bare) : un bare (c :: r) = .error 2 := by
  unfold un; rw [List.length_cons, unF, if_neg h, if_pos hb]
theorem un_plain (bare r : List UInt8) (c : UInt8) (h : c ≠ 92) (hb : c ∉ bare) : un bare (c :: r) = (un bare r).map (c :: ·) := by
  unfold un; rw [List.length_cons, unF, if_neg h, if_neg hb]
theorem un_esc' {bare r : List UInt8} {x : UInt8} {n : Nat} (h : escd r = (x, n, 0)) : un bare (92 :: r) = (un bare (r.drop n)).map (x :: ·) := by
  have := un_esc bare r (by rw [h]); rwa [h] at this
theorem un_err' {bare r : List UInt8} {x : UInt8} {n : Nat} {z : Int} (h : escd r = (x, n, z)) (hz : z ≠ 0) : un bare (92 :: r) = .error z := by
  have := un_err bare r (by rw [h]; exact hz); rwa [h] at this
/-- the pair that the functions hand back -/
def pairOf : Except Int (List UInt8) → List UInt8 × Int
  | .ok l => (l, 0)
  | .error e => ([], e)
def unesc (bare l : List UInt8) : List UInt8 × Int := pairOf (un bare l)
theorem unF_len (bare : List UInt8) : ∀ (n : Nat) (l r : List UInt8), unF bare n l = .ok r → r.length ≤ l.length := by
  intro n
  induction n with
  | zero => intro l r h; cases l <;> (simp only [unF, Except.ok.injEq] at h; subst h; simp)
  | succ n ih =>
    intro l r h
    cases l with
    | nil => simp only [unF, Except.ok.injEq] at h; subst h; simp
    | cons c l =>
      simp only [unF] at h
      split at h
      · split at h
        · cases hx : unF bare n (l.drop (escd l).2.1) with
          | error e => rw [hx] at h; cases h
          | ok y =>
            rw [hx] at h; simp only [Except.map, Except.ok.injEq] at h; subst h
            have := ih _ _ hx; simp at this ⊢; omega
        · cases h
      · split at h
        · cases h
        · cases hx : unF bare n l with
          | error e => rw [hx] at h; cases h
          | ok y =>
            rw [hx] at h; simp only [Except.map, Except.ok.injEq] at h; subst h
            have := ih _ _ hx; simp; omega
theorem unesc_len (bare s : List UInt8) : (unesc bare s).1.length ≤ s.length := by
  unfold unesc un
  cases h : unF bare s.length s with
  | error e => simp [pairOf]
  | ok r => exact unF_len _ _ _ _ h
def parse (s : List UInt8) : List UInt8 × Int :=
  if (unesc [46] s).2 = 0 then (if check (unesc [46] s).1.length = 0 then ((unesc [46] s).1, 0) else ([], check (unesc [46] s).1.length)) else ([], (unesc [46] s).2)
/-- what has been read so far is ahead of what is still to be read -/
def Ahead (bare l out rest : List UInt8) : Prop := un bare l = (un bare rest).map (out ++ ·)
theorem Ahead.start (bare l : List UInt8) : Ahead bare l [] l := by
  unfold Ahead; cases un bare l <;> rfl
theorem Ahead.step {bare l out rest rest' : List UInt8} {x : List UInt8} (h : Ahead bare l out rest) (h2 : un bare rest = (un bare rest').map (x ++ ·)) : Ahead bare l (out ++ x) rest' := by
  unfold Ahead at *; rw [h, h2]
  cases un bare rest' <;> simp [Except.map]
theorem Ahead.done {bare l out : List UInt8} (h : Ahead bare l out []) : unesc bare l = (out, 0) := by
  unfold unesc; rw [h, un_nil]; simp [Except.map, pairOf]
theorem Ahead.err {bare l out rest : List UInt8} {e : Int} (h : Ahead bare l out rest) (h2 : un bare rest = .error e) : unesc bare l = ([], e) := by
  unfold unesc; rw [h, h2]; rfl

theorem text_foldl (l : List UInt8) : l.flatMap refTextC = text l := by
  unfold text; congr 1; funext c; exact refTextC_eq c

end Go.Proofs.YtneghhbclefmoaaGreat.Lb
