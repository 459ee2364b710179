/- Plain functions of a zone's text in words. -/
import Derived.Test.YticljagcigiejaaRow
namespace Go.Proofs.Yticljagcigiejaa
open Go.RowKit Go.Shelf
set_option maxRecDepth 100000

namespace Tk
abbrev Wd := List UInt8 × Bool
structure En where
  line : Nat
  blank : Bool
  words : List Wd
structure St where
  out : List En
  line : Nat
  blank : Bool
  words : List Wd
  opens : List Nat
def st0 : St := ⟨[], 0, false, [], []⟩
def St.put (st : St) (x : Wd) (n : Nat) : St := { st with line := if st.words = [] then n else st.line, words := st.words ++ [x] }
def St.endE (st : St) : St := ⟨if st.words = [] then st.out else st.out ++ [⟨st.line, st.blank, st.words⟩], 0, false, [], st.opens⟩
def St.open (st : St) (n : Nat) : St := { st with opens := st.opens ++ [n] }
def St.close (st : St) : St := { st with opens := st.opens.dropLast }

def sep (c : UInt8) : Bool := c == 32 || c == 9 || c == 59 || c == 40 || c == 41 || c == 34
/-- behind a quote: the text up to the next one -/
def quo : List UInt8 → Option (List UInt8)
  | [] => none
  | c :: r => if c = 34 then some [] else if c = 92 then (match r with
    | [] => none
    | d :: r => (quo r).map fun t => c :: d :: t) else (quo r).map (c :: ·)
/-- a word without quotes -/
def bare : List UInt8 → Option (List UInt8)
  | [] => some []
  | c :: r => if sep c then some [] else if c = 92 then (match r with
    | [] => none
    | d :: r => (bare r).map fun t => c :: d :: t) else (bare r).map (c :: ·)
def readF : Nat → List UInt8 → St → Nat → Except Int St
  | 0, _, st, _ => .ok st
  | _ + 1, [], st, _ => .ok st
  | f + 1, c :: r, st, n =>
    if c = 32 ∨ c = 9 then readF f r st n
    else if c = 59 then .ok st
    else if c = 40 then (if st.opens.length = 8 then .error 10 else readF f r (st.open n) n)
    else if c = 41 then (if st.opens = [] then .error 2 else readF f r st.close n)
    else if c = 34 then (match quo r with
      | none => .error 2
      | some t => readF f (r.drop (t.length + 1)) (st.put (t, true) n) n)
    else match bare (c :: r) with
      | none => .error 2
      | some t => readF f ((c :: r).drop t.length) (st.put (t, false) n) n
def read (s : List UInt8) (st : St) (n : Nat) : Except Int St := readF s.length s st n

theorem quo_len : ∀ (m : Nat) (s t : List UInt8), s.length ≤ m → quo s = some t → t.length + 1 ≤ s.length
  | _, [], _, _, h => by simp [quo] at h
  | 0, _ :: _, _, hm, _ => by simp at hm
  | m + 1, c :: r, t, hm, h => by
    simp only [List.length_cons] at hm
    unfold quo at h
    split at h
    · cases h; simp
    · split at h
      · match r, hm, h with
        | [], _, h => cases h
        | d :: r, hm, h =>
          obtain ⟨y, hy, rfl⟩ := Option.map_eq_some_iff.1 h
          simp only [List.length_cons] at hm
          have := quo_len m r y (by omega) hy
          simp; omega
      · obtain ⟨y, hy, rfl⟩ := Option.map_eq_some_iff.1 h
        have := quo_len m r y (by omega) hy
        simp; omega
theorem bare_len : ∀ (m : Nat) (s t : List UInt8), s.length ≤ m → bare s = some t → t.length ≤ s.length
  | _, [], _, _, h => by simp [bare] at h; subst h; simp
  | 0, _ :: _, _, hm, _ => by simp at hm
  | m + 1, c :: r, t, hm, h => by
    simp only [List.length_cons] at hm
    unfold bare at h
    split at h
    · cases h; simp
    · split at h
      · match r, hm, h with
        | [], _, h => cases h
        | d :: r, hm, h =>
          obtain ⟨y, hy, rfl⟩ := Option.map_eq_some_iff.1 h
          simp only [List.length_cons] at hm
          have := bare_len m r y (by omega) hy
          simp; omega
      · obtain ⟨y, hy, rfl⟩ := Option.map_eq_some_iff.1 h
        have := bare_len m r y (by omega) hy
        simp; omega
theorem quo_take : ∀ (m : Nat) (s t : List UInt8), s.length ≤ m → quo s = some t → t = s.take t.length
  | _, [], _, _, h => by simp [quo] at h
  | 0, _ :: _, _, hm, _ => by simp at hm
  | m + 1, c :: r, t, hm, h => by
    simp only [List.length_cons] at hm
    unfold quo at h
    split at h
    · cases h; simp
    · split at h
      · match r, hm, h with
        | [], _, h => cases h
        | d :: r, hm, h =>
          obtain ⟨y, hy, rfl⟩ := Option.map_eq_some_iff.1 h
          simp only [List.length_cons] at hm
          have := quo_take m r y (by omega) hy
          simp only [List.length_cons, List.take_succ_cons]; rw [← this]
      · obtain ⟨y, hy, rfl⟩ := Option.map_eq_some_iff.1 h
        have := quo_take m r y (by omega) hy
        simp only [List.length_cons, List.take_succ_cons]; rw [← this]
theorem bare_take : ∀ (m : Nat) (s t : List UInt8), s.length ≤ m → bare s = some t → t = s.take t.length
  | _, [], _, _, h => by simp [bare] at h; subst h; simp
  | 0, _ :: _, _, hm, _ => by simp at hm
  | m + 1, c :: r, t, hm, h => by
    simp only [List.length_cons] at hm
    unfold bare at h
    split at h
    · cases h; simp
    · split at h
      · match r, hm, h with
        | [], _, h => cases h
        | d :: r, hm, h =>
          obtain ⟨y, hy, rfl⟩ := Option.map_eq_some_iff.1 h
          simp only [List.length_cons] at hm
          have := bare_take m r y (by omega) hy
          simp only [List.length_cons, List.take_succ_cons]; rw [← this]
      · obtain ⟨y, hy, rfl⟩ := Option.map_eq_some_iff.1 h
        have := bare_take m r y (by omega) hy
        simp only [List.length_cons, List.take_succ_cons]; rw [← this]
theorem bare_pos {c : UInt8} {r t : List UInt8} (hs : sep c = false) (h : bare (c :: r) = some t) : 0 < t.length := by
  unfold bare at h
  rw [hs] at h
  simp only [Bool.false_eq_true, if_false] at h
  split at h
  · match r, h with
    | [], h => cases h
    | d :: r, h => obtain ⟨y, hy, rfl⟩ := Option.map_eq_some_iff.1 h; simp
  · obtain ⟨y, hy, rfl⟩ := Option.map_eq_some_iff.1 h; simp
theorem not_sep {c : UInt8} (h1 : ¬ (c = 32 ∨ c = 9)) (h2 : c ≠ 59) (h3 : c ≠ 40) (h4 : c ≠ 41) (h5 : c ≠ 34) : sep c = false := by
  unfold sep; simp only [Bool.or_eq_false_iff, beq_eq_false_iff_ne]; exact ⟨⟨⟨⟨⟨fun e => h1 (.inl e), fun e => h1 (.inr e)⟩, h2⟩, h3⟩, h4⟩, h5⟩
theorem readF_fuel : ∀ (f g : Nat) (s : List UInt8) (st : St) (n : Nat), s.length ≤ f → s.length ≤ g → readF f s st n = readF g s st n
  | 0, 0, _, _, _, _, _ => rfl
  | 0, g + 1, [], _, _, _, _ => rfl
  | f + 1, 0, [], _, _, _, _ => rfl
  | 0, g + 1, _ :: _, _, _, h, _ => by simp at h
  | f + 1, 0, _ :: _, _, _, _, h => by simp at h
  | f + 1, g + 1, [], _, _, _, _ => rfl
  | f + 1, g + 1, c :: r, st, n, hf, hg => by
    simp only [List.length_cons] at hf hg
    unfold readF
    split
    · exact readF_fuel f g r st n (by omega) (by omega)
    rename_i h1
    split
    · rfl
    rename_i h2
    split
    · split
      · rfl
      · exact readF_fuel f g r _ n (by omega) (by omega)
    rename_i h3
    split
    · split
      · rfl
      · exact readF_fuel f g r _ n (by omega) (by omega)
    rename_i h4
    split
    · rcases hq : quo r with _ | t
      · rfl
      · simp only
        exact readF_fuel f g _ _ n (by simp; omega) (by simp; omega)
    rename_i h5
    rcases hq : bare (c :: r) with _ | t
    · rfl
    · simp only
      have := bare_pos (not_sep h1 h2 h3 h4 h5) hq
      exact readF_fuel f g _ _ n (by simp; omega) (by simp; omega)
theorem read_nil (st : St) (n : Nat) : read [] st n = .ok st := rfl
theorem read_blank {c : UInt8} (r : List UInt8) (st : St) (n : Nat) (h : c = 32 ∨ c = 9) : read (c :: r) st n = read r st n := by
  unfold read; rw [List.length_cons, readF, if_pos h]
theorem read_rem (r : List UInt8) (st : St) (n : Nat) : read (59 :: r) st n = .ok st := by
  unfold read; rw [List.length_cons, readF]; simp
theorem read_open (r : List UInt8) (st : St) (n : Nat) : read (40 :: r) st n = if st.opens.length = 8 then .error 10 else read r (st.open n) n := by
  unfold read; rw [List.length_cons, readF]; simp
theorem read_close (r : List UInt8) (st : St) (n : Nat) : read (41 :: r) st n = if st.opens = [] then .error 2 else read r st.close n := by
  unfold read; rw [List.length_cons, readF]; simp
theorem read_quo {r : List UInt8} (st : St) (n : Nat) : read (34 :: r) st n = match quo r with
    | none => .error 2
    | some t => read (r.drop (t.length + 1)) (st.put (t, true) n) n := by
  unfold read; rw [List.length_cons, readF]; simp
  rcases hq : quo r with _ | t
  · rfl
  · exact readF_fuel _ _ _ _ n (by simp) (by simp)
theorem read_bare {c : UInt8} {r : List UInt8} (st : St) (n : Nat) (hs : sep c = false) : read (c :: r) st n = match bare (c :: r) with
    | none => .error 2
    | some t => read ((c :: r).drop t.length) (st.put (t, false) n) n := by
  have hs' := hs
  unfold sep at hs'
  simp only [Bool.or_eq_false_iff, beq_eq_false_iff_ne] at hs'
  obtain ⟨⟨⟨⟨⟨h1, h2⟩, h3⟩, h4⟩, h5⟩, h6⟩ := hs'
  unfold read
  rw [List.length_cons, readF, if_neg (by rintro (e | e); exact h1 e; exact h2 e), if_neg h3, if_neg h4, if_neg h5, if_neg h6]
  rcases hq : bare (c :: r) with _ | t
  · rfl
  · have := bare_pos hs hq
    exact readF_fuel _ _ _ _ n (by simp; omega) (by simp)

/-! ### lines -/
def ln (s : List UInt8) : List UInt8 := s.takeWhile (· != 10)
def has (s : List UInt8) : Bool := s.any (· == 10)
def rest (s : List UInt8) : List UInt8 := (s.dropWhile (· != 10)).drop 1
def cr (l : List UInt8) : List UInt8 := if l.getLast? = some 13 then l.dropLast else l
def line1 (s : List UInt8) : List UInt8 := if has s then cr (ln s) else s
def isBlank (l : List UInt8) : Bool := match l with
  | [] => false
  | c :: _ => c == 32 || c == 9
def St.begin (st : St) (l : List UInt8) : St := { st with blank := if st.opens = [] then isBlank l else st.blank }
def St.fin (st : St) : St := if st.opens = [] then st.endE else st
def stepL (st : St) (n : Nat) (l : List UInt8) : Except Int St := (read l (st.begin l) n).map St.fin
def entF : Nat → List UInt8 → Nat → St → Except (Nat × Int) St
  | 0, _, _, st => .ok st
  | f + 1, s, n, st => if s = [] then .ok st else match stepL st n (line1 s) with
    | .error e => .error (n, e)
    | .ok st' => entF f (rest s) (n + 1) st'
def ent (s : List UInt8) (n : Nat) (st : St) : Except (Nat × Int) St := entF s.length s n st
def finish : Except (Nat × Int) St → List En × Nat × Int
  | .error (n, e) => ([], n, e)
  | .ok st => match st.opens with
    | [] => (st.out, 0, 0)
    | n :: _ => ([], n, 2)
def entries (s : List UInt8) : List En × Nat × Int := finish (ent s 1 st0)
theorem rest_len (s : List UInt8) (h : s ≠ []) : (rest s).length < s.length := by
  unfold rest
  have : (s.dropWhile (· != 10)).length ≤ s.length := (List.dropWhile_suffix _).length_le
  have h1 := List.length_pos_iff.2 h
  simp only [List.length_drop]; omega
theorem entF_fuel : ∀ (f g : Nat) (s : List UInt8) (n : Nat) (st : St), s.length ≤ f → s.length ≤ g → entF f s n st = entF g s n st
  | 0, 0, _, _, _, _, _ => rfl
  | 0, g + 1, [], _, _, _, _ => by simp [entF]
  | f + 1, 0, [], _, _, _, _ => by simp [entF]
  | 0, g + 1, _ :: _, _, _, h, _ => by simp at h
  | f + 1, 0, _ :: _, _, _, _, h => by simp at h
  | f + 1, g + 1, s, n, st, hf, hg => by
    unfold entF
    split
    · rfl
    · rename_i h0
      have := rest_len s h0
      rcases stepL st n (line1 s) with e | st'
      · rfl
      · exact entF_fuel f g _ _ _ (by omega) (by omega)
theorem ent_nil (n : Nat) (st : St) : ent [] n st = .ok st := rfl
theorem ent_cons {s : List UInt8} (h : s ≠ []) (n : Nat) (st : St) : ent s n st = match stepL st n (line1 s) with
    | .error e => .error (n, e)
    | .ok st' => ent (rest s) (n + 1) st' := by
  unfold ent
  have h1 := List.length_pos_iff.2 h
  obtain ⟨m, hm⟩ : ∃ m, s.length = m + 1 := ⟨s.length - 1, by omega⟩
  rw [hm, entF, if_neg h]
  have := rest_len s h
  rcases stepL st n (line1 s) with e | st'
  · rfl
  · exact entF_fuel _ _ _ _ _ (by omega) (by omega)
end Tk
end Go.Proofs.Yticljagcigiejaa
