/- Plain laws of names; the walks of NameText, NameTwo. -/
import Derived.Test.YtikibmeopndncaaNmO
namespace Go.Proofs.Ytikibmeopndncaa
open Go.RowKit Go.Shelf
set_option maxRecDepth 100000

/-! ### a name in words, and back -/
theorem Nm.words_split : ∀ (n : List (List UInt8)) (cur : List UInt8), Lb.splitF cur (Nm.words n) = some (match n with
    | [] => [cur]
    | x :: r => (cur ++ Lb.text x) :: (r.map Lb.text ++ [[]]))
  | [], cur => by simp [Nm.words, Lb.splitF]
  | x :: r, cur => by
    show Lb.splitF cur (Lb.text x ++ 46 :: Nm.words r) = _
    rw [Lb.splitF_text, Lb.splitF.eq_def]
    simp only [if_true]
    rw [Nm.words_split r []]
    cases r with
    | nil => rfl
    | cons y r => simp
theorem Nm.split_words {n : List (List UInt8)} (h : n ≠ []) : Lb.split (Nm.words n) = some (n.map Lb.text ++ [[]]) := by
  unfold Lb.split
  rw [Nm.words_split]
  cases n with
  | nil => exact absurd rfl h
  | cons x r => simp
theorem Nm.check0_all : ∀ (n : List (List UInt8)), Nm.check0 n = 0 → ∀ x ∈ n, Lb.check x.length = 0
  | [], _, x, hx => by cases hx
  | y :: r, h, x, hx => by
    unfold Nm.check0 at h
    split at h
    · rename_i hy
      rcases List.mem_cons.1 hx with rfl | hx
      · exact hy
      · exact Nm.check0_all r h x hx
    · rename_i hy; exact absurd h hy
theorem Nm.check_zero {n : List (List UInt8)} (h : Nm.check n = 0) : Nm.check0 n = 0 ∧ Nm.len n ≤ 255 := by
  unfold Nm.check at h
  split at h
  · rename_i h0
    split at h
    · cases h
    · exact ⟨h0, by omega⟩
  · rename_i h0; exact absurd h h0
theorem Lb.check_zero {m : Nat} (h : Lb.check m = 0) : 0 < m ∧ m ≤ 63 := by
  unfold Lb.check at h
  split at h
  · cases h
  · split at h
    · cases h
    · omega
theorem Lb.text_ne {x : List UInt8} (h : 0 < x.length) : Lb.text x ≠ [] := by
  cases x with
  | nil => simp at h
  | cons c r =>
    show Lb.textC c ++ Lb.text r ≠ []
    unfold Lb.textC
    split
    · simp [Lb.esc]
    · split <;> simp
theorem Nm.partsF_words : ∀ (n : List (List UInt8)), (∀ x ∈ n, Lb.check x.length = 0) → Nm.partsF (n.map Lb.text ++ [[]]) = .ok (n, true)
  | [], _ => by simp [Nm.partsF]
  | x :: r, h => by
    have hx := h x (List.mem_cons_self ..)
    have hr := Nm.partsF_words r (fun y hy => h y (List.mem_cons_of_mem _ hy))
    have hp : Lb.parse (Lb.text x) = (x, 0) := by rw [Lb.parse_text, if_pos hx]
    show Nm.partsF (Lb.text x :: (r.map Lb.text ++ [[]])) = _
    rw [Nm.partsF, if_neg, hp, if_pos rfl, hr]
    · rfl
    · rintro ⟨_, h2⟩; simp at h2
theorem Nm.words_ne {n : List (List UInt8)} (h : n ≠ []) (hc : ∀ x ∈ n, Lb.check x.length = 0) : Nm.words n ≠ [64] ∧ Nm.words n ≠ [46] ∧ Nm.words n ≠ [] := by
  cases n with
  | nil => exact absurd rfl h
  | cons x r =>
    have hx := Lb.text_ne (Lb.check_zero (hc x (List.mem_cons_self ..))).1
    have hl : 0 < (Lb.text x).length := List.length_pos_iff.2 hx
    refine ⟨fun e => ?_, fun e => ?_, fun e => ?_⟩
    all_goals
      have := congrArg List.length e
      simp [Nm.words] at this
      try omega
theorem Nm.parse_text {n origin : List (List UInt8)} (h : Nm.check n = 0) : Nm.parse (Nm.text n) origin = (n, 0) := by
  obtain ⟨h0, hl⟩ := Nm.check_zero h
  have hc := Nm.check0_all n h0
  by_cases hn : n = []
  · subst hn; simp [Nm.text, Nm.parse]
  · obtain ⟨w1, w2, w3⟩ := Nm.words_ne hn hc
    rw [Nm.text_pos hn]
    unfold Nm.parse Nm.parts
    rw [if_neg w1, if_neg w2, if_neg w3, Nm.split_words hn]
    simp only [Nm.partsF_words n hc]
    unfold Nm.fin
    rw [if_pos h]

/-! ### the order of names -/
theorem Nm.cmpR_anti : ∀ (a b : List (List UInt8)), Nm.cmpR b a = 0 - Nm.cmpR a b
  | [], [] => rfl
  | [], _ :: _ => rfl
  | _ :: _, [] => rfl
  | x :: a, y :: b => by
    have h : cmpL y x = 0 - cmpL x y := by unfold cmpL; rw [cmp_anti]; omega
    unfold Nm.cmpR
    by_cases h0 : cmpL x y = 0
    · rw [if_pos h0, if_pos (by omega)]; exact Nm.cmpR_anti a b
    · rw [if_neg h0, if_neg (by omega)]; exact h
theorem Nm.cmp_anti (a b : List (List UInt8)) : Nm.cmp b a = 0 - Nm.cmp a b := Nm.cmpR_anti _ _
theorem Nm.cmpR_zero : ∀ (a b : List (List UInt8)), (Nm.cmpR a b = 0) ↔ a.map Lb.fold = b.map Lb.fold
  | [], [] => by simp [Nm.cmpR]
  | [], _ :: _ => by simp [Nm.cmpR]
  | _ :: _, [] => by simp [Nm.cmpR]
  | x :: a, y :: b => by
    have h : cmpL x y = 0 ↔ Lb.fold x = Lb.fold y := by unfold cmpL; exact cmp_eq_zero _ _
    have ih := Nm.cmpR_zero a b
    unfold Nm.cmpR
    by_cases h0 : cmpL x y = 0
    · rw [if_pos h0, ih]; simp [h.1 h0]
    · rw [if_neg h0]
      simp only [List.map_cons, List.cons.injEq]
      exact ⟨fun e => absurd e h0, fun e => absurd (h.2 e.1) h0⟩
theorem Nm.cmp_zero (a b : List (List UInt8)) : (Nm.cmp a b == 0) = Nm.same a b := by
  rw [Bool.eq_iff_iff, beq_iff_eq]
  unfold Nm.cmp Nm.same Nm.fold
  rw [Nm.cmpR_zero, beq_iff_eq, List.map_reverse, List.map_reverse]
  exact ⟨fun h => List.reverse_inj.1 h, fun h => by rw [h]⟩
end Go.Proofs.Ytikibmeopndncaa
