/- Plain laws of names: order, below, meeting, other ends, parts. -/
import Derived.Test.YtikibmeopndncaaNmQ
namespace Go.Proofs.Ytikibmeopndncaa
open Go.RowKit Go.Shelf
set_option maxRecDepth 100000

/-! ### the order -/
theorem cmpL_zero (x y : List UInt8) : cmpL x y = 0 ↔ Lb.fold x = Lb.fold y := by unfold cmpL; exact cmp_eq_zero _ _
theorem cmpL_anti (x y : List UInt8) : cmpL y x = - cmpL x y := by unfold cmpL; exact cmp_anti _ _
theorem cmpL_left {x y : List UInt8} (h : cmpL x y = 0) (z : List UInt8) : cmpL x z = cmpL y z := by unfold cmpL; rw [(cmpL_zero x y).1 h]
theorem cmpL_right {y z : List UInt8} (h : cmpL y z = 0) (x : List UInt8) : cmpL x y = cmpL x z := by unfold cmpL; rw [(cmpL_zero y z).1 h]
theorem cmpL_lt {x y z : List UInt8} (h : cmpL x y < 0) (k : cmpL y z < 0) : cmpL x z < 0 := by
  have h1 : cmpL x z ≤ 0 := by unfold cmpL at *; exact cmp_trans _ (Lb.fold y) _ (by omega) (by omega)
  have h2 : cmpL x z ≠ 0 := fun e => by
    have := cmpL_right e y
    have := cmpL_anti x y
    omega
  omega
theorem Nm.cmpR_trans : ∀ (a b c : List (List UInt8)), Nm.cmpR a b ≤ 0 → Nm.cmpR b c ≤ 0 → Nm.cmpR a c ≤ 0
  | [], _, [], _, _ => by simp [Nm.cmpR]
  | [], _, _ :: _, _, _ => by simp [Nm.cmpR]
  | _ :: _, [], _, h, _ => by simp [Nm.cmpR] at h
  | _ :: _, _ :: _, [], _, h => by simp [Nm.cmpR] at h
  | x :: a, y :: b, z :: c, h, k => by
    unfold Nm.cmpR at h k ⊢
    by_cases h0 : cmpL x y = 0
    · rw [if_pos h0] at h
      rw [cmpL_left h0 z]
      by_cases k0 : cmpL y z = 0
      · rw [if_pos k0] at k ⊢
        exact Nm.cmpR_trans a b c h k
      · rw [if_neg k0] at k ⊢
        exact k
    · rw [if_neg h0] at h
      by_cases k0 : cmpL y z = 0
      · rw [← cmpL_right k0 x, if_neg h0]; exact h
      · rw [if_neg k0] at k
        have := cmpL_lt (x := x) (y := y) (z := z) (by omega) (by omega)
        rw [if_neg (by omega)]; omega
theorem Nm.cmp_trans {a b c : List (List UInt8)} (h : Nm.cmp a b ≤ 0) (k : Nm.cmp b c ≤ 0) : Nm.cmp a c ≤ 0 := Nm.cmpR_trans _ _ _ h k
theorem Nm.cmpR_range : ∀ (a b : List (List UInt8)), -1 ≤ Nm.cmpR a b ∧ Nm.cmpR a b ≤ 1
  | [], [] => by simp [Nm.cmpR]
  | [], _ :: _ => by simp [Nm.cmpR]
  | _ :: _, [] => by simp [Nm.cmpR]
  | x :: a, y :: b => by
    unfold Nm.cmpR
    split
    · exact Nm.cmpR_range a b
    · have := cmp_range (Lb.fold x) (Lb.fold y)
      unfold cmpL; omega
theorem Nm.cmp_range (a b : List (List UInt8)) : -1 ≤ Nm.cmp a b ∧ Nm.cmp a b ≤ 1 := Nm.cmpR_range _ _
theorem Nm.cmpR_app : ∀ (p q r s : List (List UInt8)), p.map Lb.fold = q.map Lb.fold → Nm.cmpR (p ++ r) (q ++ s) = Nm.cmpR r s
  | [], [], _, _, _ => rfl
  | [], _ :: _, _, _, h => by simp at h
  | _ :: _, [], _, _, h => by simp at h
  | x :: p, y :: q, r, s, h => by
    simp only [List.map_cons, List.cons.injEq] at h
    simp only [List.cons_append]
    rw [Nm.cmpR, if_pos ((cmpL_zero x y).2 h.1)]
    exact Nm.cmpR_app p q r s h.2

/-! ### below -/
theorem Nm.fold_length (n : List (List UInt8)) : (Nm.fold n).length = n.length := by simp [Nm.fold]
theorem Nm.fold_drop (n : List (List UInt8)) (k : Nat) : Nm.fold (n.drop k) = (Nm.fold n).drop k := by simp [Nm.fold, List.map_drop]
theorem Nm.fold_append (a b : List (List UInt8)) : Nm.fold (a ++ b) = Nm.fold a ++ Nm.fold b := by simp [Nm.fold]
theorem Nm.fold_fold (n : List (List UInt8)) : Nm.fold (Nm.fold n) = Nm.fold n := by
  unfold Nm.fold; rw [List.map_map]; exact List.map_congr_left fun x _ => _root_.Go.Proofs.Ytikibmeopndncaa.fold_fold x
theorem Nm.same_fold (n : List (List UInt8)) : Nm.same n (Nm.fold n) = true := by unfold Nm.same; rw [Nm.fold_fold]; simp
theorem Nm.under_iff (n z : List (List UInt8)) : Nm.under n z = true ↔ Nm.fold z <:+ Nm.fold n := by
  unfold Nm.under Nm.same
  rw [Bool.and_eq_true, decide_eq_true_eq, beq_iff_eq, Nm.fold_drop]
  constructor
  · rintro ⟨_, h⟩
    exact h ▸ List.drop_suffix _ _
  · intro h
    have hl := h.length_le
    rw [Nm.fold_length, Nm.fold_length] at hl
    refine ⟨hl, ?_⟩
    have := List.suffix_iff_eq_drop.1 h
    rw [Nm.fold_length, Nm.fold_length] at this
    exact this.symm
theorem Nm.under_trans {a b c : List (List UInt8)} (h : Nm.under a b = true) (k : Nm.under b c = true) : Nm.under a c = true :=
  (Nm.under_iff a c).2 (((Nm.under_iff b c).1 k).trans ((Nm.under_iff a b).1 h))
theorem Nm.under_app (p n : List (List UInt8)) : Nm.under (p ++ n) n = true := (Nm.under_iff _ _).2 (by rw [Nm.fold_append]; exact List.suffix_append _ _)
theorem Nm.under_refl (n : List (List UInt8)) : Nm.under n n = true := (Nm.under_iff _ _).2 (List.suffix_refl _)
theorem Nm.under_cmp {a b : List (List UInt8)} (h : Nm.under a b = true) : 0 ≤ Nm.cmp a b := by
  obtain ⟨p, hp⟩ := (Nm.under_iff a b).1 h
  have hl : a.length = p.length + b.length := by
    have := congrArg List.length hp
    simp only [List.length_append, Nm.fold_length] at this; omega
  have e : a = a.take p.length ++ a.drop p.length := (List.take_append_drop _ _).symm
  have hd : Nm.fold (a.drop p.length) = Nm.fold b := by rw [Nm.fold_drop, ← hp]; simp
  unfold Nm.cmp
  rw [e, List.reverse_append]
  have := Nm.cmpR_app (a.drop p.length).reverse b.reverse (a.take p.length).reverse [] (by
    rw [List.map_reverse, List.map_reverse]; exact congrArg List.reverse hd)
  rw [List.append_nil] at this
  rw [this]
  cases (a.take p.length).reverse <;> simp [Nm.cmpR]

/-! ### meeting -/
theorem Nm.common_spec : ∀ (a b : List (List UInt8)), ∃ k, k ≤ a.length ∧ Nm.common a b = a.drop k ∧ Nm.under b (a.drop k) = true ∧ (0 < k → Nm.under b (a.drop (k - 1)) = false)
  | [], b => ⟨0, by simp, rfl, Nm.under_nil b, fun h => absurd h (by omega)⟩
  | x :: r, b => by
    rcases hu : Nm.under b (x :: r) with _ | _
    · obtain ⟨k, h1, h2, h3, h4⟩ := Nm.common_spec r b
      refine ⟨k + 1, by simp; omega, ?_, by simpa using h3, fun _ => ?_⟩
      · rw [Nm.common, if_neg (by rw [hu]; decide)]; simpa using h2
      · rcases Nat.eq_zero_or_pos k with rfl | hk
        · simpa using hu
        · have := h4 hk
          rw [show k + 1 - 1 = (k - 1) + 1 by omega]; simpa using this
    · exact ⟨0, by simp, by rw [Nm.common, if_pos hu]; rfl, by simpa using hu, fun h => absurd h (by omega)⟩
theorem Nm.common_nb {a : List (List UInt8)} (h : NB a) (b : List (List UInt8)) : NB (Nm.common a b) := by
  obtain ⟨k, _, e, _⟩ := Nm.common_spec a b
  rw [e]; exact h.drop k
theorem Nm.common_law (a b : List (List UInt8)) : Nm.under a (Nm.common a b) = true ∧ Nm.under b (Nm.common a b) = true ∧ (Nm.common a b).length ≤ a.length ∧ (Nm.common a b).length ≤ b.length ∧
    ((Nm.common a b).length ≠ a.length → Nm.under b (a.drop (a.length - (Nm.common a b).length - 1)) = false) := by
  obtain ⟨k, h1, e, h2, h3⟩ := Nm.common_spec a b
  have hl : (Nm.common a b).length = a.length - k := by rw [e]; simp
  refine ⟨?_, by rw [e]; exact h2, by omega, ?_, fun hne => ?_⟩
  · rw [e]
    have := Nm.under_app (a.take k) (a.drop k)
    rwa [List.take_append_drop] at this
  · rw [e] 
    have := ((Nm.under_iff _ _).1 h2).length_le
    rwa [Nm.fold_length, Nm.fold_length] at this
  · rw [hl] at hne ⊢
    rw [show a.length - (a.length - k) - 1 = k - 1 by omega]
    exact h3 (by omega)

/-! ### one more ahead -/
theorem Nm.child_not_under (l : List UInt8) (n : List (List UInt8)) : Nm.under n (l :: n) = false := by
  rcases h : Nm.under n (l :: n) with _ | _
  · rfl
  · have := ((Nm.under_iff _ _).1 h).length_le
    rw [Nm.fold_length, Nm.fold_length, List.length_cons] at this; omega
theorem Nm.child_cmp (l : List UInt8) (n : List (List UInt8)) : Nm.cmp n (l :: n) = -1 := by
  unfold Nm.cmp
  rw [List.reverse_cons]
  have := Nm.cmpR_app n.reverse n.reverse [] [l] rfl
  rw [List.append_nil] at this
  rw [this]; rfl

/-! ### another end -/
theorem Nm.len_fold : ∀ (a b : List (List UInt8)), Nm.fold a = Nm.fold b → Nm.len a = Nm.len b
  | [], [], _ => rfl
  | [], _ :: _, h => by simp [Nm.fold] at h
  | _ :: _, [], h => by simp [Nm.fold] at h
  | x :: a, y :: b, h => by
    simp only [Nm.fold, List.map_cons, List.cons.injEq] at h
    have h1 := congrArg List.length h.1
    rw [_root_.Go.Proofs.Ytikibmeopndncaa.fold_length, _root_.Go.Proofs.Ytikibmeopndncaa.fold_length] at h1
    have := Nm.len_fold a b h.2
    simp only [Nm.len]; omega
theorem Nm.check0_fold : ∀ (a b : List (List UInt8)), Nm.fold a = Nm.fold b → Nm.check0 a = Nm.check0 b
  | [], [], _ => rfl
  | [], _ :: _, h => by simp [Nm.fold] at h
  | _ :: _, [], h => by simp [Nm.fold] at h
  | x :: a, y :: b, h => by
    simp only [Nm.fold, List.map_cons, List.cons.injEq] at h
    have h1 := congrArg List.length h.1
    rw [_root_.Go.Proofs.Ytikibmeopndncaa.fold_length, _root_.Go.Proofs.Ytikibmeopndncaa.fold_length] at h1
    have := Nm.check0_fold a b h.2
    simp only [Nm.check0, h1, this]
theorem Nm.check_fold {a b : List (List UInt8)} (h : Nm.fold a = Nm.fold b) : Nm.check a = Nm.check b := by
  unfold Nm.check; rw [Nm.len_fold a b h, Nm.check0_fold a b h]
theorem Nm.swap_okay {n f t s : List (List UInt8)} (h : Nm.swap n f t = (s, 0)) : Nm.under n f = true ∧ s = n.take (n.length - f.length) ++ t ∧ Nm.check s = 0 := by
  unfold Nm.swap at h
  split at h
  · rename_i hu
    split at h
    · rename_i hc
      simp only [Prod.mk.injEq] at h
      obtain ⟨rfl, _⟩ := h
      exact ⟨hu, rfl, hc⟩
    · simp at h
  · simp at h
theorem Nm.swap_back {n f t s : List (List UInt8)} (h : Nm.swap n f t = (s, 0)) (hn : Nm.check n = 0) : ∃ b, Nm.swap s t f = (b, 0) ∧ Nm.same b n = true ∧ Nm.under s t = true ∧ b = n.take (n.length - f.length) ++ f := by
  obtain ⟨hu, rfl, hc⟩ := Nm.swap_okay h
  have hu' := hu
  unfold Nm.under at hu'
  rw [Bool.and_eq_true, decide_eq_true_eq] at hu'
  obtain ⟨hl, hs⟩ := hu'
  unfold Nm.same at hs
  rw [beq_iff_eq] at hs
  have hf : Nm.fold (n.take (n.length - f.length) ++ f) = Nm.fold n := by
    rw [Nm.fold_append, ← hs, ← Nm.fold_append, List.take_append_drop]
  refine ⟨_, ?_, ?_, Nm.under_app _ _, rfl⟩
  · unfold Nm.swap
    rw [if_pos (Nm.under_app _ _)]
    have hk : (n.take (n.length - f.length) ++ t).length - t.length = (n.take (n.length - f.length)).length := by simp
    rw [hk, List.take_left, if_pos (by rw [Nm.check_fold hf]; exact hn)]
  · unfold Nm.same; rw [hf]; simp
theorem Nm.swap_nb {n f t : List (List UInt8)} (hn : NB n) (ht : NB t) (h : n.length + t.length ≤ 1000) : NB (Nm.swap n f t).1 ∧ (Nm.swap n f t).1.length ≤ n.length + t.length := by
  unfold Nm.swap
  split
  · split
    · exact ⟨(hn.take _).append ht (by simp; omega), by simp⟩
    · exact ⟨nb_nil, by simp⟩
  · exact ⟨nb_nil, by simp⟩

/-! ### relative to an origin -/
theorem Nm.words_jn : ∀ (n : List (List UInt8)), n ≠ [] → Nm.words n = Lb.jn n ++ [46]
  | [], h => absurd rfl h
  | [x], _ => by simp [Nm.words, Lb.jn]
  | x :: y :: r, _ => by
    have := Nm.words_jn (y :: r) (by simp)
    rw [Nm.words, this]
    simp [Lb.jn]
theorem Lb.textC_not (c d : UInt8) (hd : d ∈ Lb.marks) : Lb.textC c ≠ [d] := by
  unfold Lb.textC Lb.esc
  split
  · simp
  · split
    · simp
    · rename_i _ h
      intro e; cases e; exact h hd
theorem Lb.textC_pos (c : UInt8) : 0 < (Lb.textC c).length := by
  unfold Lb.textC Lb.esc; split
  · simp
  · split <;> simp
theorem Lb.text_not (x : List UInt8) (d : UInt8) (hd : d ∈ Lb.marks) : Lb.text x ≠ [d] := by
  intro h
  cases x with
  | nil => cases h
  | cons c r =>
    have h' : Lb.textC c ++ Lb.text r = [d] := h
    have hp := Lb.textC_pos c
    have hl := congrArg List.length h'
    rw [List.length_append] at hl
    simp only [List.length_cons, List.length_nil] at hl
    have : Lb.text r = [] := List.length_eq_zero_iff.1 (by omega)
    rw [this, List.append_nil] at h'
    exact Lb.textC_not c d hd h'
theorem Nm.jn_ne {n : List (List UInt8)} (h : n ≠ []) (hc : ∀ x ∈ n, Lb.check x.length = 0) : Lb.jn n ≠ [64] ∧ Lb.jn n ≠ [46] ∧ Lb.jn n ≠ [] := by
  cases n with
  | nil => exact absurd rfl h
  | cons x r =>
    have hx := Lb.text_ne (Lb.check_zero (hc x (List.mem_cons_self ..))).1
    cases r with
    | nil =>
      have e : Lb.jn [x] = Lb.text x := by simp [Lb.jn]
      rw [e]
      exact ⟨Lb.text_not x 64 (by decide), Lb.text_not x 46 (by decide), hx⟩
    | cons y r =>
      have hl : 0 < (Lb.text x).length := List.length_pos_iff.2 hx
      have hy := Lb.text_ne (Lb.check_zero (hc y (by simp))).1
      have hl' : 0 < (Lb.text y).length := List.length_pos_iff.2 hy
      have e : 2 ≤ (Lb.jn (x :: y :: r)).length := by
        have e1 : Lb.jn (x :: y :: r) = Lb.text x ++ 46 :: (Lb.jn (y :: r)) := by simp [Lb.jn]
        rw [e1]; simp; omega
      refine ⟨fun h => ?_, fun h => ?_, fun h => ?_⟩ <;> (rw [h] at e; simp at e)
theorem Nm.partsF_jn : ∀ (n : List (List UInt8)), (∀ x ∈ n, Lb.check x.length = 0) → Nm.partsF (n.map Lb.text) = .ok (n, false)
  | [], _ => by simp [Nm.partsF]
  | x :: r, h => by
    have hx := h x (List.mem_cons_self ..)
    have hr := Nm.partsF_jn r (fun y hy => h y (List.mem_cons_of_mem _ hy))
    have hp : Lb.parse (Lb.text x) = (x, 0) := by rw [Lb.parse_text, if_pos hx]
    show Nm.partsF (Lb.text x :: (r.map Lb.text)) = _
    rw [Nm.partsF, if_neg, hp, if_pos rfl, hr]
    · rfl
    · rintro ⟨h1, _⟩; exact Lb.text_ne (Lb.check_zero hx).1 h1
theorem Nm.parse_jn {n origin : List (List UInt8)} (hn : n ≠ []) (h : Nm.check n = 0) : Nm.parse (Lb.jn n) origin = Nm.fin (n ++ origin) := by
  obtain ⟨h0, hl⟩ := Nm.check_zero h
  have hc := Nm.check0_all n h0
  obtain ⟨w1, w2, w3⟩ := Nm.jn_ne hn hc
  unfold Nm.parse Nm.parts
  rw [if_neg w1, if_neg w2, if_neg w3, Lb.split_jn n (List.length_pos_iff.2 hn)]
  simp only [Nm.partsF_jn n hc]
theorem Nm.check0_append : ∀ (a b : List (List UInt8)), Nm.check0 a = 0 → Nm.check0 (a ++ b) = Nm.check0 b
  | [], _, _ => rfl
  | x :: a, b, h => by
    unfold Nm.check0 at h
    split at h
    · rename_i hx
      rw [List.cons_append, Nm.check0, if_pos hx]; exact Nm.check0_append a b h
    · rename_i hx; exact absurd h hx
theorem Nm.check_append {a b : List (List UInt8)} (ha : Nm.check a = 0) (hb : Nm.check b = 0) : Nm.check (a ++ b) = 0 ∨ Nm.check (a ++ b) = 3 := by
  have h := Nm.check0_append a b (Nm.check_zero ha).1
  rw [(Nm.check_zero hb).1] at h
  unfold Nm.check
  rw [if_pos h]; split
  · exact .inr rfl
  · exact .inl rfl
end Go.Proofs.Ytikibmeopndncaa
