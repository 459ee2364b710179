/- Plain laws of labels: there and back. -/
import Derived.Test.YtikibmeopndncaaLabSpec2
namespace Go.Proofs.Ytikibmeopndncaa.Lb

theorem esc_spec (c : UInt8) : isDig (48 + c / 100) ∧ isDig (48 + c / 10 % 10) ∧ isDig (48 + c % 10) ∧ num3 (48 + c / 100) (48 + c / 10 % 10) (48 + c % 10) = c.toNat := by
  have h : ∀ n : Fin 256, decide (isDig (48 + UInt8.ofFin n / 100) ∧ isDig (48 + UInt8.ofFin n / 10 % 10) ∧ isDig (48 + UInt8.ofFin n % 10) ∧ num3 (48 + UInt8.ofFin n / 100) (48 + UInt8.ofFin n / 10 % 10) (48 + UInt8.ofFin n % 10) = (UInt8.ofFin n).toNat) = true := by decide +kernel
  exact of_decide_eq_true (h c.toFin)
theorem marks_not_dig (c : UInt8) (h : c ∈ marks) : ¬ isDig c := by
  simp only [marks, List.mem_cons, List.not_mem_nil, or_false] at h
  rcases h with rfl | rfl | rfl | rfl | rfl | rfl | rfl | rfl <;> decide
theorem un_textC (c : UInt8) (r : List UInt8) : un [46] (textC c ++ r) = (un [46] r).map (c :: ·) := by
  unfold textC
  split
  · obtain ⟨h1, h2, h3, h4⟩ := esc_spec c
    have he := escd_three (r := r) h1 h2 h3
    rw [h4, if_neg (by have := c.toNat_lt; omega)] at he
    show un [46] (92 :: (48 + c / 100) :: (48 + c / 10 % 10) :: (48 + c % 10) :: r) = _
    rw [un_esc' he]
    simp
  · split
    · rename_i hm
      have he := escd_not (r := r) (marks_not_dig c hm)
      show un [46] (92 :: c :: r) = _
      rw [un_esc' he]; rfl
    · rename_i hm
      refine un_plain [46] r c (fun e => hm (by rw [e]; decide)) (fun e => hm ?_)
      rw [List.mem_singleton.1 e]; decide
theorem un_text (l : List UInt8) : un [46] (text l) = .ok l := by
  induction l with
  | nil => rfl
  | cons c l ih =>
    show un [46] (textC c ++ text l) = _
    rw [un_textC, ih]; rfl
theorem parse_text (l : List UInt8) : parse (text l) = if check l.length = 0 then (l, 0) else ([], check l.length) := by
  have h : unesc [46] (text l) = (l, 0) := by unfold unesc; rw [un_text]; rfl
  unfold parse
  rw [h, if_pos rfl]
end Go.Proofs.Ytikibmeopndncaa.Lb
