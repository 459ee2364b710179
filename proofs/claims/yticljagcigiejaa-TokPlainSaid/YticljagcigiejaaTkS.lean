/- Plain laws: words with blanks between, so many a line. -/
import Derived.Test.YticljagcigiejaaTkR
namespace Go.Proofs.Yticljagcigiejaa
open Go.RowKit Go.Shelf
set_option maxRecDepth 100000

namespace Tk
/-- c words stand in the line -/
def pt (k : Nat) : Nat → List (List UInt8) → List UInt8
  | _, [] => []
  | c, w :: l => if c + 1 = k then w ++ 10 :: pt k 0 l else w ++ 32 :: pt k (c + 1) l
def pe (k : Nat) : Nat → List Wd → List (List UInt8) → Nat → List En
  | _, W, [], n => if W = [] then [] else [⟨n, false, W⟩]
  | c, W, w :: l, n => if c + 1 = k then ⟨n, false, W ++ [(w, false)]⟩ :: pe k 0 [] l (n + 1) else pe k (c + 1) (W ++ [(w, false)]) l n
theorem pw_blank {w : List UInt8} (hw : PW w) (r : List UInt8) : isBlank (w ++ r) = false := by
  rcases w with _ | ⟨c, w⟩
  · exact absurd rfl hw.1
  · have := (hw.2 c (by simp)).1
    show (c == 32 || c == 9) = false
    have f : ∀ d : UInt8, d.toNat ≤ 32 → c ≠ d := fun d hd e => by subst e; omega
    rw [Bool.or_eq_false_iff, beq_eq_false_iff_ne, beq_eq_false_iff_ne]
    exact ⟨f 32 (by decide), f 9 (by decide)⟩
theorem plain_law (k : Nat) : ∀ (l : List (List UInt8)) (P : List UInt8) (c : Nat) (W : List Wd) (n : Nat) (O : List En), (∀ w ∈ l, PW w) → (∀ c ∈ P, c ≠ 10) → ((P = [] ∧ W = []) ∨ (W ≠ [] ∧ P ≠ [] ∧ ∀ X, isBlank (P ++ X) = false)) →
    (∀ X, read (P ++ X) ⟨O, 0, false, [], []⟩ n = read X ⟨O, if W = [] then 0 else n, false, W, []⟩ n) →
    ∃ sf, ent (P ++ pt k c l) n ⟨O, 0, false, [], []⟩ = .ok sf ∧ sf.opens = [] ∧ sf.out = O ++ pe k c W l n
  | [], P, c, W, n, O, _, hP, hPW, hr => by
    rcases hPW with ⟨rfl, rfl⟩ | ⟨hW, hP0, hbl⟩
    · exact ⟨⟨O, 0, false, [], []⟩, rfl, rfl, by simp [pe]⟩
    · have h0 := hr []
      rw [List.append_nil] at h0
      have hb0 := hbl []
      rw [List.append_nil] at hb0
      have hst : stepL ⟨O, 0, false, [], []⟩ n P = .ok ⟨O ++ [⟨n, false, W⟩], 0, false, [], []⟩ := by
        unfold stepL
        have hb : St.begin ⟨O, 0, false, [], []⟩ P = ⟨O, 0, false, [], []⟩ := by unfold St.begin; rw [if_pos rfl, hb0]
        rw [hb, h0, read_nil, if_neg hW]
        show Except.ok (St.fin ⟨O, n, false, W, []⟩) = _
        unfold St.fin St.endE
        simp [hW]
      obtain ⟨q1, q2⟩ := line_none P hP
      refine ⟨⟨O ++ [⟨n, false, W⟩], 0, false, [], []⟩, ?_, rfl, by simp [pe, hW]⟩
      show ent (P ++ []) n _ = _
      rw [List.append_nil, ent_cons hP0, q2]
      unfold line1
      rw [q1]
      simp only [Bool.false_eq_true, if_false]
      rw [hst]
      rfl
  | w :: l, P, c, W, n, O, hl, hP, hPW, hr => by
    have hpw := hl w (by simp)
    have hput : (⟨O, if W = [] then 0 else n, false, W, []⟩ : St).put (w, false) n = ⟨O, n, false, W ++ [(w, false)], []⟩ := by
      unfold St.put
      by_cases hW : W = []
      · simp [hW]
      · simp [hW]
    have hbw : ∀ X, isBlank (P ++ (w ++ X)) = false := fun X => by
      rcases hPW with ⟨rfl, _⟩ | ⟨_, _, hbl⟩
      · exact pw_blank hpw X
      · exact hbl _
    by_cases hc : c + 1 = k
    · obtain ⟨w', d, hwd⟩ : ∃ w' d, w = w' ++ [d] := by
        rcases List.eq_nil_or_concat w with h | ⟨w', d, h⟩
        · exact absurd h hpw.1
        · exact ⟨w', d, by rw [h, List.concat_eq_append]⟩
      have hd := pw_sep (hpw.2 d (by rw [hwd]; simp))
      have e : P ++ pt k c (w :: l) = ((P ++ w') ++ [d]) ++ 10 :: pt k 0 l := by
        rw [pt, if_pos hc, hwd]; simp
      have e2 : (P ++ w') ++ [d] = P ++ (w ++ []) := by rw [hwd]; simp
      have hst : stepL ⟨O, 0, false, [], []⟩ n ((P ++ w') ++ [d]) = .ok ⟨O ++ [⟨n, false, W ++ [(w, false)]⟩], 0, false, [], []⟩ := by
        unfold stepL
        rw [e2]
        have hb : St.begin ⟨O, 0, false, [], []⟩ (P ++ (w ++ [])) = ⟨O, 0, false, [], []⟩ := by unfold St.begin; rw [if_pos rfl, hbw []]
        rw [hb, hr, read_word hpw _ _ _ (.inl rfl), hput, read_nil]
        show Except.ok (St.fin ⟨O, n, false, W ++ [(w, false)], []⟩) = _
        unfold St.fin St.endE
        simp
      rw [e, ent_line (fun x hx => by
        rcases List.mem_append.1 hx with h | h
        · exact hP x h
        · exact pw_no hpw x (by rw [hwd]; simp [h])) d hd.2.2.2 hd.2.2.1, hst]
      obtain ⟨sf, h1, h2, h3⟩ := plain_law k l [] 0 [] (n + 1) (O ++ [⟨n, false, W ++ [(w, false)]⟩]) (fun x hx => hl x (by simp [hx])) (by simp) (.inl ⟨rfl, rfl⟩) (fun X => rfl)
      refine ⟨sf, h1, h2, ?_⟩
      rw [h3, pe, if_pos hc]; simp
    · obtain ⟨sf, h1, h2, h3⟩ := plain_law k l (P ++ (w ++ [32])) (c + 1) (W ++ [(w, false)]) n O (fun x hx => hl x (by simp [hx]))
        (fun x hx => by
          simp only [List.mem_append, List.mem_singleton] at hx
          rcases hx with h | h | rfl
          · exact hP x h
          · exact pw_no hpw x h
          · decide)
        (.inr ⟨by simp, by simp, fun X => by rw [List.append_assoc, List.append_assoc]; exact hbw _⟩)
        (fun X => by
          rw [List.append_assoc, hr, List.append_assoc]
          show read (w ++ 32 :: X) _ n = _
          rw [read_word hpw _ _ _ (.inr ⟨32, X, rfl, by decide⟩), hput, if_neg (by simp)]
          exact read_blank _ _ _ (.inl rfl))
      refine ⟨sf, ?_, h2, ?_⟩
      · rw [← h1, pt, if_neg hc]; simp
      · rw [h3, pe, if_neg hc]
theorem plain (k : Nat) (l : List (List UInt8)) (h : ∀ w ∈ l, PW w) : entries (pt k 0 l) = (pe k 0 [] l 1, 0, 0) := by
  obtain ⟨sf, h1, h2, h3⟩ := plain_law k l [] 0 [] 1 [] h (by simp) (.inl ⟨rfl, rfl⟩) (fun X => rfl)
  unfold entries
  have h1' : ent (pt k 0 l) 1 st0 = .ok sf := h1
  rw [h1']
  rw [finish_ok h2, h3]
  simp
theorem pe_head (k : Nat) : ∀ (l : List (List UInt8)) (c : Nat) (W : List Wd) (n : Nat), W ≠ [] → ∃ e es, pe k c W l n = e :: es ∧ e.line = n ∧ ∀ j, j < W.length → e.words[j]? = W[j]?
  | [], c, W, n, hW => ⟨⟨n, false, W⟩, [], by rw [pe, if_neg hW], rfl, fun _ _ => rfl⟩
  | w :: l, c, W, n, hW => by
    by_cases hc : c + 1 = k
    · exact ⟨_, _, by rw [pe, if_pos hc], rfl, fun j hj => List.getElem?_append_left hj⟩
    · obtain ⟨e, es, h1, h2, h3⟩ := pe_head k l (c + 1) (W ++ [(w, false)]) n (by simp)
      refine ⟨e, es, by rw [pe, if_neg hc, h1], h2, fun j hj => ?_⟩
      rw [h3 j (by simp; omega)]
      exact List.getElem?_append_left hj
theorem pe_get (k : Nat) : ∀ (l : List (List UInt8)) (c : Nat) (W : List Wd) (n i : Nat), c < k → W.length = c → (h : i < l.length) → ∃ e, (pe k c W l n)[(c + i) / k]? = some e ∧ e.words[(c + i) % k]? = some (l[i], false) ∧ e.line = n + (c + i) / k
  | [], c, W, n, i, _, _, h => by simp at h
  | w :: l, c, W, n, 0, hc, hW, _ => by
    rw [Nat.add_zero, Nat.div_eq_of_lt hc, Nat.mod_eq_of_lt hc]
    by_cases hk : c + 1 = k
    · rw [pe, if_pos hk]
      exact ⟨_, rfl, by simp [← hW], rfl⟩
    · obtain ⟨e, es, h1, h2, h3⟩ := pe_head k l (c + 1) (W ++ [(w, false)]) n (by simp)
      rw [pe, if_neg hk, h1]
      refine ⟨e, rfl, ?_, by simpa using h2⟩
      rw [h3 c (by simp [hW])]
      simp [← hW]
  | w :: l, c, W, n, i + 1, hc, hW, h => by
    have hk0 : 0 < k := by omega
    by_cases hk : c + 1 = k
    · obtain ⟨e, h1, h2, h3⟩ := pe_get k l 0 [] (n + 1) i hk0 rfl (by simpa using h)
      rw [Nat.zero_add] at h1 h2 h3
      have e1 : c + (i + 1) = i + k := by omega
      rw [e1, Nat.add_div_right _ hk0, Nat.add_mod_right, pe, if_pos hk]
      exact ⟨e, by simpa using h1, by simpa using h2, by rw [h3]; omega⟩
    · obtain ⟨e, h1, h2, h3⟩ := pe_get k l (c + 1) (W ++ [(w, false)]) n i (by omega) (by simp [hW]) (by simpa using h)
      rw [pe, if_neg hk, show c + (i + 1) = c + 1 + i by omega]
      exact ⟨e, h1, by simpa using h2, h3⟩
theorem pe_len (k : Nat) : ∀ (l : List (List UInt8)) (c : Nat) (W : List Wd) (n : Nat), c < k → W.length = c → (pe k c W l n).length = (c + l.length + k - 1) / k
  | [], c, W, n, hc, hW => by
    rw [pe]
    by_cases h0 : W = []
    · subst h0
      have : c = 0 := by rw [← hW]; rfl
      subst this
      rw [if_pos rfl]
      simp only [List.length_nil, Nat.zero_add]
      rw [Nat.div_eq_of_lt (by omega)]
    · have := List.length_pos_iff.2 h0
      rw [if_neg h0]
      simp only [List.length_cons, List.length_nil, Nat.add_zero, Nat.zero_add]
      rw [show c + k - 1 = (c - 1) + k by omega, Nat.add_div_right _ (by omega), Nat.div_eq_of_lt (by omega)]
  | w :: l, c, W, n, hc, hW => by
    have hk0 : 0 < k := by omega
    rw [pe]
    by_cases hk : c + 1 = k
    · rw [if_pos hk]
      have := pe_len k l 0 [] (n + 1) hk0 rfl
      simp only [List.length_cons, this, Nat.zero_add]
      rw [show c + (l.length + 1) + k - 1 = (l.length + k - 1) + k by omega, Nat.add_div_right _ hk0]
    · rw [if_neg hk, pe_len k l (c + 1) (W ++ [(w, false)]) n (by omega) (by simp [hW])]
      congr 1
      simp only [List.length_cons]; omega
end Tk
end Go.Proofs.Yticljagcigiejaa
