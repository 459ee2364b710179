/- The two lexers say the same: plain laws. -/
import Derived.Test.YticljagcigiejaaTkK
namespace Go.Proofs.Yticljagcigiejaa
open Go.RowKit Go.Shelf
set_option maxRecDepth 100000

namespace Tk
/-- within a line s: the reference's lexer x stands where the reader st stands -/
structure LIn (s : List UInt8) (x : Lx) (st : St) : Prop where
  out : x.out = st.out
  words : x.words = st.words
  line : x.line = st.line
  opn : x.opn = st.opens.length
  first : ∀ m r, st.opens = m :: r → x.first = m
  yes : x.on = true → x.blank = st.blank
  no : x.on = false → st.words = [] ∧ st.opens = [] ∧ st.blank = isBlank s ∧ x.inn = false
  wd : x.inn = false → x.wd = []
/-- between lines -/
structure LSim (x : Lx) (st : St) : Prop where
  out : x.out = st.out
  words : x.words = st.words
  line : x.line = st.line
  opn : x.opn = st.opens.length
  first : ∀ m r, st.opens = m :: r → x.first = m
  yes : x.on = true → x.blank = st.blank ∧ st.opens ≠ []
  no : x.on = false → st.words = [] ∧ st.opens = []
  inn : x.inn = false
  wd : x.wd = []
theorem LSim.start : LSim lx0 st0 := ⟨rfl, rfl, rfl, rfl, fun _ _ h => (by cases h), fun h => (by cases h), fun _ => ⟨rfl, rfl⟩, rfl, rfl⟩
theorem LSim.begin {x st} (h : LSim x st) (s : List UInt8) : LIn s x (st.begin s) := by
  refine ⟨h.out, h.words, h.line, h.opn, h.first, fun ho => ?_, fun ho => ?_, fun _ => h.wd⟩
  · obtain ⟨h1, h2⟩ := h.yes ho
    show x.blank = if st.opens = [] then isBlank s else st.blank
    rw [if_neg h2]; exact h1
  · obtain ⟨h1, h2⟩ := h.no ho
    exact ⟨h1, h2, (show (if st.opens = [] then isBlank s else st.blank) = isBlank s by rw [if_pos h2]), h.inn⟩
theorem LIn.fin {s x st} (h : LIn s x st) (hi : x.inn = false) : LSim x.fin st.fin := by
  unfold Lx.fin St.fin
  have ho := h.opn
  by_cases h0 : st.opens = []
  · rw [h0] at ho
    rw [if_neg (by rw [ho]; simp), if_pos h0]
    unfold St.endE
    refine ⟨?_, rfl, rfl, by rw [h0]; exact ho, fun m r e => (by simp [h0] at e), fun e => (by cases e), fun _ => ⟨rfl, h0⟩, hi, h.wd hi⟩
    show (if x.words = [] then x.out else x.out ++ [⟨x.line, x.blank, x.words⟩]) = if st.words = [] then st.out else st.out ++ [⟨st.line, st.blank, st.words⟩]
    rw [h.words, h.out, h.line]
    by_cases hw : st.words = []
    · rw [if_pos hw, if_pos hw]
    · rw [if_neg hw, if_neg hw]
      have hon : x.on = true := by
        rcases hb : x.on with _ | _
        · exact absurd (h.no hb).1 hw
        · rfl
      rw [h.yes hon]
  · rw [if_pos (by rw [ho]; exact List.length_pos_iff.2 h0), if_neg h0]
    refine ⟨h.out, h.words, h.line, h.opn, h.first, fun e => ⟨h.yes e, h0⟩, fun e => absurd (h.no e).2.1 h0, hi, h.wd hi⟩
/-- the reader, with the word that the reference has begun -/
def flushed (x : Lx) (st : St) (n : Nat) : St := if x.inn = true then st.put (x.wd, false) n else st
def pend (x : Lx) (r : List UInt8) (st : St) (n : Nat) : Except Int St :=
  if x.inn = true then (match bare r with
    | none => .error 2
    | some t => read (r.drop t.length) (st.put (x.wd ++ t, false) n) n) else read r st n
theorem LIn.flush {s x st} (h : LIn s x st) (n : Nat) : LIn s (x.flush false n) (flushed x st n) ∧ (x.flush false n).inn = false ∧ (x.flush false n).on = x.on := by
  rcases hi : x.inn with _ | _
  · have e1 : x.flush false n = x := by unfold Lx.flush; rw [if_pos ⟨hi, rfl⟩]
    have e2 : flushed x st n = st := by unfold flushed; rw [hi]; rfl
    rw [e1, e2]
    exact ⟨h, hi, rfl⟩
  · have e1 : x.flush false n = { x with line := if x.words = [] then n else x.line, words := x.words ++ [(x.wd, false)], wd := [], inn := false } := by unfold Lx.flush; rw [if_neg (by rw [hi]; simp)]
    have e2 : flushed x st n = st.put (x.wd, false) n := by unfold flushed; rw [hi]; rfl
    have hon : x.on = true := by
      rcases hb : x.on with _ | _
      · have := (h.no hb).2.2.2; rw [hi] at this; cases this
      · rfl
    rw [e1, e2]
    refine ⟨⟨h.out, ?_, ?_, h.opn, h.first, h.yes, fun e => ?_, fun _ => rfl⟩, rfl, rfl⟩
    · show x.words ++ [(x.wd, false)] = st.words ++ [(x.wd, false)]; rw [h.words]
    · show (if x.words = [] then n else x.line) = if st.words = [] then n else st.line; rw [h.words, h.line]
    · have e : x.on = false := e
      rw [hon] at e; cases e
theorem pend_stop {x : Lx} {r : List UInt8} (st : St) (n : Nat) (h : r = [] ∨ ∃ c r', r = c :: r' ∧ sep c = true) : pend x r st n = read r (flushed x st n) n := by
  have hb : bare r = some [] := by
    rcases h with rfl | ⟨c, r', rfl, hc⟩
    · rfl
    · exact bare_end _ hc
  unfold pend flushed
  split
  · rw [hb]; simp
  · rfl
theorem LIn.begin {s x st} (h : LIn s x st) : LIn s (x.begin (isBlank s)) st ∧ (x.begin (isBlank s)).on = true ∧ (x.begin (isBlank s)).inn = x.inn ∧ (x.begin (isBlank s)).wd = x.wd ∧ (x.begin (isBlank s)).opn = x.opn ∧ (x.begin (isBlank s)).words = x.words ∧ (x.begin (isBlank s)).out = x.out := by
  rcases ho : x.on with _ | _
  · have e : x.begin (isBlank s) = { x with on := true, blank := isBlank s } := by unfold Lx.begin; rw [ho]; rfl
    rw [e]
    exact ⟨⟨h.out, h.words, h.line, h.opn, h.first, fun _ => (h.no ho).2.2.1.symm, fun e => (by cases e), h.wd⟩, rfl, rfl, rfl, rfl, rfl, rfl⟩
  · have e : x.begin (isBlank s) = x := by unfold Lx.begin; rw [ho]; rfl
    rw [e]
    exact ⟨h, ho, rfl, rfl, rfl, rfl, rfl⟩
theorem LIn.open {s x st} (h : LIn s x st) (ho : x.on = true) (n f : Nat) (hf : f = if x.opn = 0 then n else x.first) : LIn s { x with first := f, opn := x.opn + 1 } (st.open n) := by
  refine ⟨h.out, h.words, h.line, ?_, fun m r e => ?_, h.yes, fun e => ?_, h.wd⟩
  · show x.opn + 1 = (st.opens ++ [n]).length; rw [h.opn]; simp
  · have e : st.opens ++ [n] = m :: r := e
    show f = m
    rw [hf]
    rcases hs : st.opens with _ | ⟨a, q⟩
    · rw [hs] at e; simp at e
      rw [if_pos (by rw [h.opn, hs]; rfl)]; exact e.1
    · rw [hs] at e; simp at e
      rw [if_neg (by rw [h.opn, hs]; simp), h.first a q hs]; exact e.1
  · have e : x.on = false := e
    rw [ho] at e; cases e
theorem LIn.close {s x st} (h : LIn s x st) (h0 : st.opens ≠ []) : LIn s { x with opn := x.opn - 1 } st.close := by
  refine ⟨h.out, h.words, h.line, ?_, fun m r e => ?_, h.yes, fun e => absurd (h.no e).2.1 h0, h.wd⟩
  · show x.opn - 1 = st.opens.dropLast.length; rw [h.opn]; simp
  · have e : st.opens.dropLast = m :: r := e
    rcases hs : st.opens with _ | ⟨a, q⟩
    · rw [hs] at e; cases e
    · rw [hs] at e
      have : a = m := by cases q with
        | nil => simp at e
        | cons b q => simp at e; exact e.1
      rw [← this]; exact h.first a q hs
theorem LIn.quote {s x st} (h : LIn s x st) (ho : x.on = true) (hi : x.inn = false) (t : List UInt8) (n : Nat) : LIn s (({ x with wd := x.wd ++ t } : Lx).flush true n) (st.put (t, true) n) ∧ (({ x with wd := x.wd ++ t } : Lx).flush true n).inn = false := by
  have hw := h.wd hi
  have e1 : ({ x with wd := x.wd ++ t } : Lx).flush true n = { x with line := if x.words = [] then n else x.line, words := x.words ++ [(t, true)], wd := [], inn := false } := by
    unfold Lx.flush; rw [if_neg (by simp), hw]; rfl
  rw [e1]
  refine ⟨⟨h.out, ?_, ?_, h.opn, h.first, h.yes, fun e => ?_, fun _ => rfl⟩, rfl⟩
  · show x.words ++ [(t, true)] = st.words ++ [(t, true)]; rw [h.words]
  · show (if x.words = [] then n else x.line) = if st.words = [] then n else st.line; rw [h.words, h.line]
  · have e : x.on = false := e
    rw [ho] at e; cases e
theorem LIn.char {s x st} (h : LIn s x st) (ho : x.on = true) (l : List UInt8) : LIn s { x with inn := true, wd := x.wd ++ l } st :=
  ⟨h.out, h.words, h.line, h.opn, h.first, h.yes, fun e => (by have e : x.on = false := e; rw [ho] at e; cases e), fun e => (by cases e)⟩
theorem pend_char {s x st} (h : LIn s x st) {c : UInt8} (r : List UInt8) (n : Nat) (hs : sep c = false) (hc : c ≠ 92) : pend x (c :: r) st n = pend { x with inn := true, wd := x.wd ++ [c] } r st n := by
  unfold pend
  simp only [if_true]
  split
  · rw [bare_plain _ hs hc]
    rcases bare r with _ | t
    · rfl
    · simp [List.append_assoc]
  · rename_i hi
    have hw := h.wd (by simpa using hi)
    rw [read_bare _ _ hs, bare_plain _ hs hc, hw]
    rcases bare r with _ | t
    · rfl
    · simp
theorem pend_stroke {s x st} (h : LIn s x st) (d : UInt8) (r : List UInt8) (n : Nat) : pend x (92 :: d :: r) st n = pend { x with inn := true, wd := x.wd ++ [92, d] } r st n := by
  have hs : sep 92 = false := by decide
  unfold pend
  simp only [if_true]
  split
  · rw [bare_two]
    rcases bare r with _ | t
    · rfl
    · simp [List.append_assoc]
  · rename_i hi
    have hw := h.wd (by simpa using hi)
    rw [read_bare _ _ hs, bare_two, hw]
    rcases bare r with _ | t
    · rfl
    · simp
theorem pend_lone (x : Lx) (st : St) (n : Nat) : pend x [92] st n = .error 2 := by
  have hs : sep 92 = false := by decide
  unfold pend
  split
  · rw [bare_lone]
  · rw [read_bare _ _ hs, bare_lone]
end Tk
end Go.Proofs.Yticljagcigiejaa
