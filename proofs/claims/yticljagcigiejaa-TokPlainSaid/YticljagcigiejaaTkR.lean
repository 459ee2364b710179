/- Plain laws: words with blanks, brackets, line ends between. -/
import Derived.Test.YticljagcigiejaaTkQ
namespace Go.Proofs.Yticljagcigiejaa
open Go.RowKit Go.Shelf
set_option maxRecDepth 100000

namespace Tk
/-- a word without signs of its own -/
def PW (w : List UInt8) : Prop := w ≠ [] ∧ ∀ c ∈ w, 32 < c.toNat ∧ c ≠ 34 ∧ c ≠ 40 ∧ c ≠ 41 ∧ c ≠ 59 ∧ c ≠ 92
theorem pw_sep {c : UInt8} (h : 32 < c.toNat ∧ c ≠ 34 ∧ c ≠ 40 ∧ c ≠ 41 ∧ c ≠ 59 ∧ c ≠ 92) : sep c = false ∧ c ≠ 92 ∧ c ≠ 10 ∧ c ≠ 13 := by
  obtain ⟨h0, h1, h2, h3, h4, h5⟩ := h
  have f : ∀ d : UInt8, d.toNat ≤ 32 → c ≠ d := fun d hd e => by subst e; omega
  exact ⟨not_sep (by rintro (e | e); exact f 32 (by decide) e; exact f 9 (by decide) e) h4 h2 h3 h1, h5, f 10 (by decide), f 13 (by decide)⟩
theorem bare_word : ∀ (w r : List UInt8), (∀ c ∈ w, 32 < c.toNat ∧ c ≠ 34 ∧ c ≠ 40 ∧ c ≠ 41 ∧ c ≠ 59 ∧ c ≠ 92) → (r = [] ∨ ∃ d r', r = d :: r' ∧ sep d = true) → bare (w ++ r) = some w
  | [], r, _, hr => by
    rcases hr with rfl | ⟨d, r', rfl, hd⟩
    · rfl
    · exact bare_end _ hd
  | c :: w, r, h, hr => by
    have hc := pw_sep (h c (by simp))
    rw [List.cons_append, bare_plain _ hc.1 hc.2.1, bare_word w r (fun d hd => h d (by simp [hd])) hr]; rfl
theorem read_word {w : List UInt8} (hw : PW w) (r : List UInt8) (st : St) (n : Nat) (hr : r = [] ∨ ∃ d r', r = d :: r' ∧ sep d = true) : read (w ++ r) st n = read r (st.put (w, false) n) n := by
  obtain ⟨h0, h1⟩ := hw
  rcases w with _ | ⟨c, w⟩
  · exact absurd rfl h0
  · have hb := bare_word (c :: w) r h1 hr
    rw [List.cons_append] at hb ⊢
    rw [read_bare _ _ (pw_sep (h1 c (by simp))).1, hb]
    show read ((c :: (w ++ r)).drop (w.length + 1)) _ n = _
    rw [show (c :: (w ++ r)).drop (w.length + 1) = r by simp]
theorem pw_no {w : List UInt8} (hw : PW w) : ∀ c ∈ w, c ≠ 10 := fun c hc => (pw_sep (hw.2 c hc)).2.2.1
theorem finish_ok {sf : St} (h : sf.opens = []) : finish (.ok sf) = (sf.out, 0, 0) := by simp [finish, h]
/-- what stands behind 'x (' -/
def bt : List (List UInt8 × Bool) → List UInt8
  | [] => [41, 10, 122, 10]
  | (w, true) :: l => w ++ 32 :: 59 :: 32 :: 121 :: 10 :: bt l
  | (w, false) :: l => w ++ 32 :: bt l
theorem ent_line {T R : List UInt8} (hT : ∀ c ∈ T, c ≠ 10) (d : UInt8) (hd : d ≠ 13) (hd' : d ≠ 10) (n : Nat) (st : St) : ent ((T ++ [d]) ++ 10 :: R) n st = match stepL st n (T ++ [d]) with
    | .error e => .error (n, e)
    | .ok st' => ent R (n + 1) st' := by
  obtain ⟨h1, h2, h3⟩ := line_split (T ++ [d]) R (fun c hc => by
    rcases List.mem_append.1 hc with h | h
    · exact hT c h
    · rw [List.mem_singleton.1 h]; exact hd')
  rw [ent_cons (by simp), h3]
  unfold line1
  rw [h1, if_pos rfl, h2, cr_snoc _ _ hd]
  rcases stepL st n (T ++ [d]) with _ | _ <;> rfl
theorem brackets_law : ∀ (l : List (List UInt8 × Bool)) (P : List UInt8) (n : Nat) (st s0 s1 : St), (∀ x ∈ l, PW x.1) → (∀ c ∈ P, c ≠ 10) → (∀ X, st.begin (P ++ X) = s0 ∨ X = []) → (∀ X, read (P ++ X) s0 n = read X s1 n) → s1.opens = [1] → s1.words ≠ [] →
    ∃ m sf, ent (P ++ bt l) n st = .ok sf ∧ sf.opens = [] ∧ sf.out = s1.out ++ [⟨s1.line, s1.blank, s1.words ++ l.map fun x => (x.1, false)⟩] ++ [⟨m, false, [([122], false)]⟩]
  | [], P, n, st, s0, s1, _, hP, hb, hr, ho, hw => by
    have e : P ++ bt [] = (P ++ [41]) ++ 10 :: [122, 10] := by simp [bt]
    have hst : stepL st n (P ++ [41]) = .ok s1.close.fin := by
      unfold stepL
      rcases hb [41] with h | h
      · rw [h, hr [41], read_close, if_neg (by rw [ho]; simp)]; rfl
      · cases h
    have hop : s1.close.opens = [] := by simp [St.close, ho]
    have hfin : s1.close.fin = ⟨s1.out ++ [⟨s1.line, s1.blank, s1.words⟩], 0, false, [], []⟩ := by
      unfold St.fin; rw [if_pos hop]; unfold St.endE
      rw [show s1.close.words = s1.words from rfl, if_neg hw, hop]; rfl
    rw [e, ent_line hP 41 (by decide) (by decide), hst, hfin]
    refine ⟨n + 1, ⟨s1.out ++ [⟨s1.line, s1.blank, s1.words⟩] ++ [⟨n + 1, false, [([122], false)]⟩], 0, false, [], []⟩, ?_, rfl, by simp⟩
    show ent (([] ++ [122]) ++ 10 :: []) (n + 1) _ = _
    rw [ent_line (by simp) 122 (by decide) (by decide)]
    have : read ([] ++ [122]) (St.begin ⟨s1.out ++ [⟨s1.line, s1.blank, s1.words⟩], 0, false, [], []⟩ ([] ++ [122])) (n + 1) = .ok ⟨s1.out ++ [⟨s1.line, s1.blank, s1.words⟩], n + 1, false, [([122], false)], []⟩ := by
      rw [List.nil_append, read_bare _ _ (by decide), bare_plain _ (by decide) (by decide)]; rfl
    unfold stepL
    rw [this]
    rfl
  | (w, false) :: l, P, n, st, s0, s1, hl, hP, hb, hr, ho, hw => by
    have hpw : PW w := hl (w, false) (by simp)
    have := brackets_law l (P ++ (w ++ [32])) n st s0 (s1.put (w, false) n) (fun x hx => hl x (by simp [hx]))
      (fun c hc => by
        simp only [List.mem_append, List.mem_singleton] at hc
        rcases hc with h | h | rfl
        · exact hP c h
        · exact pw_no hpw c h
        · decide)
      (fun X => .inl (by
        rcases hb ((w ++ [32]) ++ X) with h | h
        · rw [List.append_assoc]; exact h
        · simp at h))
      (fun X => by
        rw [List.append_assoc, hr, List.append_assoc]
        show read (w ++ 32 :: X) s1 n = _
        rw [read_word hpw _ _ _ (.inr ⟨32, X, rfl, by decide⟩)]
        exact read_blank _ _ _ (.inl rfl))
      ho (by simp [St.put])
    obtain ⟨m, sf, h1, h2, h3⟩ := this
    refine ⟨m, sf, ?_, h2, ?_⟩
    · rw [← h1]; simp [bt]
    · rw [h3]
      simp [St.put, hw]
  | (w, true) :: l, P, n, st, s0, s1, hl, hP, hb, hr, ho, hw => by
    have hpw : PW w := hl (w, true) (by simp)
    have e : P ++ bt ((w, true) :: l) = ((P ++ (w ++ [32, 59, 32])) ++ [121]) ++ 10 :: bt l := by simp [bt]
    have hst : stepL st n ((P ++ (w ++ [32, 59, 32])) ++ [121]) = .ok (s1.put (w, false) n) := by
      have e2 : (P ++ (w ++ [32, 59, 32])) ++ [121] = P ++ (w ++ [32, 59, 32, 121]) := by simp
      unfold stepL
      rw [e2]
      rcases hb (w ++ [32, 59, 32, 121]) with h | h
      · rw [h, hr, read_word hpw _ _ _ (.inr ⟨32, _, rfl, by decide⟩), read_blank _ _ _ (.inl rfl), read_rem]
        show Except.ok (St.fin (s1.put (w, false) n)) = _
        unfold St.fin
        rw [if_neg (by show ¬ s1.opens = []; rw [ho]; simp)]
      · simp at h
    rw [e, ent_line (fun c hc => by
        simp only [List.mem_append, List.mem_cons, List.not_mem_nil, or_false] at hc
        rcases hc with h | h | rfl | rfl | rfl
        · exact hP c h
        · exact pw_no hpw c h
        · decide
        · decide
        · decide) 121 (by decide) (by decide), hst]
    have := brackets_law l [] (n + 1) (s1.put (w, false) n) (s1.put (w, false) n) (s1.put (w, false) n) (fun x hx => hl x (by simp [hx])) (by simp)
      (fun X => .inl (by
        have : (s1.put (w, false) n).opens ≠ [] := by show s1.opens ≠ []; rw [ho]; simp
        unfold St.begin; rw [if_neg this]))
      (fun X => rfl) ho (by simp [St.put])
    obtain ⟨m, sf, h1, h2, h3⟩ := this
    refine ⟨m, sf, h1, h2, ?_⟩
    rw [h3]
    simp [St.put, hw]
theorem brackets (l : List (List UInt8 × Bool)) (h : ∀ x ∈ l, PW x.1) : ∃ m, entries (120 :: 32 :: 40 :: bt l) = ([⟨1, false, ([120], false) :: l.map fun x => (x.1, false)⟩, ⟨m, false, [([122], false)]⟩], 0, 0) := by
  obtain ⟨m, sf, h1, h2, h3⟩ := brackets_law l [120, 32, 40] 1 st0 st0 ⟨[], 1, false, [([120], false)], [1]⟩ h (by decide) (fun X => .inl rfl)
    (fun X => by
      show read ([120] ++ 32 :: 40 :: X) st0 1 = _
      rw [read_word (w := [120]) ⟨by simp, by decide⟩ _ _ _ (.inr ⟨32, _, rfl, by decide⟩), read_blank _ _ _ (.inl rfl), read_open]
      rfl) rfl (by simp)
  refine ⟨m, ?_⟩
  unfold entries
  show finish (ent ([120, 32, 40] ++ bt l) 1 st0) = _
  rw [h1]
  rw [finish_ok h2, h3]
  rfl
end Tk
end Go.Proofs.Yticljagcigiejaa
