/- label.Same, Compare; the reference's CheckLabel, special, escaped, LabelText, Digit, order, CompareLabel. -/
import Derived.Test.YtikibmeopndncaaLabD
namespace Go.Proofs.Ytikibmeopndncaa
open Go.RowKit Go.Shelf
set_option maxRecDepth 100000

/-! ### the order of texts -/
theorem cmp_refl (a : List UInt8) : Lib.compareBytes a a = 0 := by
  induction a with
  | nil => rfl
  | cons x a ih => simp [Lib.compareBytes, ih]
theorem cmp_anti : ∀ (a b : List UInt8), Lib.compareBytes b a = - Lib.compareBytes a b
  | [], [] => rfl
  | [], _ :: _ => rfl
  | _ :: _, [] => rfl
  | x :: a, y :: b => by
    have ih := cmp_anti a b
    simp only [Lib.compareBytes]
    by_cases h1 : x < y
    · have h2 : ¬ y < x := by intro h; exact absurd (UInt8.lt_iff_toNat_lt.1 h) (by have := UInt8.lt_iff_toNat_lt.1 h1; omega)
      simp [h1, h2]
    · by_cases h2 : y < x
      · simp [h1, h2]
      · simp [h1, h2, ih]
theorem cmp_eq_zero : ∀ (a b : List UInt8), Lib.compareBytes a b = 0 ↔ a = b
  | [], [] => by simp [Lib.compareBytes]
  | [], _ :: _ => by simp [Lib.compareBytes]
  | _ :: _, [] => by simp [Lib.compareBytes]
  | x :: a, y :: b => by
    have ih := cmp_eq_zero a b
    simp only [Lib.compareBytes]
    by_cases h1 : x < y
    · have : x ≠ y := fun e => by subst e; exact absurd (UInt8.lt_iff_toNat_lt.1 h1) (by omega)
      simp [h1, this]
    · by_cases h2 : y < x
      · have : x ≠ y := fun e => by subst e; exact absurd (UInt8.lt_iff_toNat_lt.1 h2) (by omega)
        simp [h1, h2, this]
      · have : x = y := UInt8.toNat_inj.1 (by have := mt UInt8.lt_iff_toNat_lt.2 h1; have := mt UInt8.lt_iff_toNat_lt.2 h2; omega)
        simp [h1, h2, ih, this]
theorem cmp_range (a b : List UInt8) : Lib.compareBytes a b = -1 ∨ Lib.compareBytes a b = 0 ∨ Lib.compareBytes a b = 1 := by
  induction a generalizing b with
  | nil => cases b <;> simp [Lib.compareBytes]
  | cons x a ih =>
    cases b with
    | nil => simp [Lib.compareBytes]
    | cons y b =>
      simp only [Lib.compareBytes]
      have := ih b
      split
      · simp
      · split
        · simp
        · exact this
theorem cmp_trans : ∀ (a b c : List UInt8), Lib.compareBytes a b ≤ 0 → Lib.compareBytes b c ≤ 0 → Lib.compareBytes a c ≤ 0
  | [], _, [] => by simp [Lib.compareBytes]
  | [], _, _ :: _ => by simp [Lib.compareBytes]
  | _ :: _, [], _ => by simp [Lib.compareBytes]
  | _ :: _, _ :: _, [] => by simp [Lib.compareBytes]
  | x :: a, y :: b, z :: c => by
    have ih := cmp_trans a b c
    simp only [Lib.compareBytes, UInt8.lt_iff_toNat_lt]
    intro h1 h2
    repeat' split at h1
    all_goals (repeat' split at h2)
    all_goals (repeat' split)
    all_goals first | omega | (exact ih h1 h2)
theorem less_cmp : ∀ (a b : List UInt8), Op.bytesLess a b = decide (Lib.compareBytes a b < 0)
  | [], [] => by simp [Lib.compareBytes, Op.bytesLess]
  | [], _ :: _ => by simp [Lib.compareBytes, Op.bytesLess]
  | _ :: _, [] => by simp [Lib.compareBytes, Op.bytesLess]
  | x :: a, y :: b => by
    have ih := less_cmp a b
    simp only [Lib.compareBytes, Op.bytesLess]
    by_cases h1 : x < y
    · simp [h1]
    · by_cases h2 : y < x
      · have : x ≠ y := fun e => by subst e; exact absurd (UInt8.lt_iff_toNat_lt.1 h2) (by omega)
        simp [h1, h2, this]
      · have : x = y := UInt8.toNat_inj.1 (by have := mt UInt8.lt_iff_toNat_lt.2 h1; have := mt UInt8.lt_iff_toNat_lt.2 h2; omega)
        simp [h1, h2, ih, this]

/-- how two labels stand -/
def cmpL (a b : List UInt8) : Int := Lib.compareBytes (Lb.fold a) (Lb.fold b)

set_option maxHeartbeats 400000 in
theorem same_any (a b : List UInt8) (w : World) (ha : a.length ≤ 1000000) (hb : b.length ≤ 1000000) :
    Calls Try.prog 69 #[S a, S b] w fun e w' => e = .returned (.bool (Lb.fold a == Lb.fold b)) ∧ Below w.heap.size w w' := by
  go_enter Try.func69, Try.ntmps69
  go_wp2_with fail
  refine (fold_any a _ ha).mono ?_
  rintro e w1 ⟨rfl, hb1⟩
  go_wp2_with fail
  refine (fold_any b _ hb).mono ?_
  rintro e w2 ⟨rfl, hb2⟩
  go_wp2_with fail
  go_ret
  exact ⟨rfl, hb1.trans (hb2.mono hb1.size)⟩

set_option maxHeartbeats 400000 in
theorem compare_any (a b : List UInt8) (w : World) (ha : a.length ≤ 1000000) (hb : b.length ≤ 1000000) :
    Calls Try.prog 70 #[S a, S b] w fun e w' => e = .returned (.int .i64 (cmpL a b)) ∧ Below w.heap.size w w' := by
  go_enter Try.func70, Try.ntmps70
  go_wp2_with fail
  refine (fold_any a _ ha).mono ?_
  rintro e w1 ⟨rfl, hb1⟩
  go_wp2_with fail
  refine (fold_any b _ hb).mono ?_
  rintro e w2 ⟨rfl, hb2⟩
  go_wp2_with fail
  refine (Try.strings_Compare _ _ _).mono ?_
  rintro e w3 ⟨rfl, rfl⟩
  go_wp2_with fail
  go_ret
  exact ⟨rfl, hb1.trans (hb2.mono hb1.size)⟩

set_option maxHeartbeats 400000 in
theorem refOrder_any (a b : List UInt8) (w : World) :
    Calls Try.prog 94 #[S a, S b] w fun e w' => e = .returned (.int .i64 (Lib.compareBytes a b)) ∧ w = w' := by
  have h1 := less_cmp a b
  have h2 : (a == b) = decide (Lib.compareBytes a b = 0) := by rw [Bool.eq_iff_iff]; simp [cmp_eq_zero]
  rcases cmp_range a b with h | h | h
  all_goals
    rw [h] at h1 h2 ⊢
    go_enter Try.func94, Try.ntmps94
    go_wp2
    go_ret
    exact ⟨rfl, rfl⟩

set_option maxHeartbeats 400000 in
theorem refCompare_any (a b : List UInt8) (w : World) (ha : a.length ≤ 1000000) (hb : b.length ≤ 1000000) :
    Calls Try.prog 66 #[S a, S b] w fun e w' => e = .returned (.int .i64 (cmpL a b)) ∧ Below w.heap.size w w' := by
  go_enter Try.func66, Try.ntmps66
  go_wp2_with fail
  refine (refFold_any a _ ha).mono ?_
  rintro e w1 ⟨rfl, hb1⟩
  go_wp2_with fail
  refine (refFold_any b _ hb).mono ?_
  rintro e w2 ⟨rfl, hb2⟩
  go_wp2_with fail
  refine (refOrder_any _ _ _).mono ?_
  rintro e w3 ⟨rfl, rfl⟩
  go_wp2_with fail
  go_ret
  exact ⟨rfl, hb1.trans (hb2.mono hb1.size)⟩

set_option maxHeartbeats 400000 in
theorem refCheck_any (s : List UInt8) (w : World) (hs : s.length ≤ 1000000) :
    Calls Try.prog 52 #[S s] w fun e w' => e = .returned (.int .i64 (Lb.check s.length)) ∧ w = w' := by
  go_enter Try.func52, Try.ntmps52
  go_wp2
  all_goals go_ret
  all_goals refine ⟨ret_int ?_, rfl⟩
  · have h : s.isEmpty = true := by assumption
    simp at h; simp [h, Lb.check]
  · have h : s.isEmpty = false := by assumption
    have h2 : (63 : Int) < s.length := by assumption
    unfold Lb.check; rw [if_neg (by omega), if_pos (by omega)]
  · have h : s.isEmpty = false := by assumption
    have h2 : (s.length : Int) ≤ 63 := by assumption
    have : s ≠ [] := by simpa using h
    have : s.length ≠ 0 := by simpa using this
    unfold Lb.check; rw [if_neg (by omega), if_neg (by omega)]

def SpP (w : World) (c : UInt8) (s : List UInt8) (e : Ending) (w' : World) : Prop := e = .returned (.bool (decide (c ∈ s))) ∧ w = w'
set_option maxHeartbeats 400000 in
theorem refSpecial_any (c : UInt8) (s : List UInt8) (w : World) (hs : s.length ≤ 1000000) :
    Calls Try.prog 88 #[.int .u8 c.toNat, S s] w (SpP w c s) := by
  go_enter Try.func88, Try.ntmps88
  go_wp2
  go_loop [5] (fun i => ∃ k : Nat, k ≤ s.length ∧ c ∉ s.take k ∧ i = .int .i64 k) (fun i => s.length - (intOf i).toNat)
  case atStart => exact ⟨0, Nat.zero_le _, by simp, rfl⟩
  case round =>
    obtain ⟨k, hk, hn, rfl⟩ := hrel
    by_cases hlt : k < s.length
    · have HT := Lib.hid (List.take_succ_eq_append_getElem hlt)
      by_cases he : s[k] = c
      · have hb : ((s[k].toNat : Int) == c.toNat) = true := by rw [he]; simp
        have HM := Lib.hid (show c ∈ s by rw [← he]; exact List.getElem_mem _)
        clear he hn
        go_wp2
        go_ret
        exact ⟨ret_bool (by simp [HM.out]), rfl⟩
      · have hb : ((s[k].toNat : Int) == c.toNat) = false := by
          rw [beq_eq_false_iff_ne]; intro e; apply he; apply UInt8.toNat_inj.1; exact_mod_cast e
        have HN := Lib.hid (show c ∉ s.take (k + 1) by
          rw [HT.out]; intro h; rcases List.mem_append.1 h with h | h
          · exact hn h
          · exact he (List.mem_singleton.1 h).symm)
        clear he hn
        go_wp2
        exact ⟨⟨k + 1, by omega, HN.out, by go_num⟩, by simp [intOf]; omega⟩
    · have HN := Lib.hid hn
      clear hn
      go_wp2
      go_ret
      exact ⟨ret_bool (by have := HN.out; rw [List.take_of_length_le (by omega)] at this; simp [this]), rfl⟩

set_option maxHeartbeats 400000 in
theorem refDigit_any (c : UInt8) (w : World) :
    Calls Try.prog 103 #[.int .u8 c.toNat] w fun e w' => e = .returned (.bool (decide (Lb.isDig c))) ∧ w = w' := by
  go_enter Try.func103, Try.ntmps103
  go_wp2
  all_goals go_ret
  · have h : 48 ≤ (c.toNat : Int) := by assumption
    exact ⟨ret_bool (by rw [Bool.eq_iff_iff]; simp [Lb.isDig]; omega), rfl⟩
  · have h : (c.toNat : Int) < 48 := by assumption
    exact ⟨ret_bool (by rw [Bool.eq_iff_iff]; simp; omega), rfl⟩
theorem refDigit_at (c : UInt8) (b : Bool) (hb : decide (Lb.isDig c) = b) (w : World) :
    Calls Try.prog 103 #[.int .u8 c.toNat] w fun e w' => e = .returned (.bool b) ∧ w = w' := by
  subst hb; exact refDigit_any c w
theorem refSpecial_at (c : UInt8) (s : List UInt8) (b : Bool) (hb : decide (c ∈ s) = b) (w : World) (hs : s.length ≤ 1000000) :
    Calls Try.prog 88 #[.int .u8 c.toNat, S s] w fun e w' => e = .returned (.bool b) ∧ w = w' := by
  subst hb; exact refSpecial_any c s w hs

set_option maxHeartbeats 400000 in
theorem refEscaped_any (c : UInt8) (w : World) :
    Calls Try.prog 89 #[.int .u8 c.toNat] w fun e w' => e = .returned (S (Lb.esc c)) ∧ Below w.heap.size w w' := by
  have hc : (c.toNat : Int) ≤ 255 := by have := c.toNat_lt; omega
  obtain ⟨d1, h1, e1⟩ : ∃ d : UInt8, Hid (d = 48 + c / 100) ∧ (48 + (c.toNat : Int) / 100) = d.toNat := ⟨_, rfl, by simp [UInt8.toNat_add, UInt8.toNat_div]; omega⟩
  obtain ⟨d2, h2, e2⟩ : ∃ d : UInt8, Hid (d = 48 + c / 10 % 10) ∧ (48 + (c.toNat : Int) / 10 % 10) = d.toNat := ⟨_, rfl, by simp [UInt8.toNat_add, UInt8.toNat_div, UInt8.toNat_mod]; omega⟩
  obtain ⟨d3, h3, e3⟩ : ∃ d : UInt8, Hid (d = 48 + c % 10) ∧ (48 + (c.toNat : Int) % 10) = d.toNat := ⟨_, rfl, by simp [UInt8.toNat_add, UInt8.toNat_mod]; omega⟩
  have hcv : (convert 84 9 (.slice (some ⟨w.heap.size, 0, none⟩) 3 3)).run Try.prog (w.alloc (.cells #[.int .u8 d1.toNat, .int .u8 d2.toNat, .int .u8 d3.toNat] 5)) = .ok (S [d1, d2, d3]) (w.alloc (.cells #[.int .u8 d1.toNat, .int .u8 d2.toNat, .int .u8 d3.toNat] 5)) := conv_lit w [d1, d2, d3] 3
  go_enter Try.func89, Try.ntmps89
  go_wp2
  go_ret
  refine ⟨?_, (Below.refl _ _).alloc (Nat.le_refl _) _⟩
  rw [Lb.esc, ← h1.out, ← h2.out, ← h3.out]; rfl

set_option maxHeartbeats 1000000 in
theorem refText_any (l : List UInt8) (w : World) (hl : l.length ≤ 1000000) :
    Calls Try.prog 57 #[S l] w fun e w' => e = .returned (S (Lb.text l)) ∧ Below w.heap.size w w' := by
  go_enter Try.func57, Try.ntmps57
  go_wp2
  go_loopw [3, 4] (fun v i wr => ∃ k : Nat, k ≤ l.length ∧ v = S (Lb.text (l.take k)) ∧ i = .int .i64 k ∧ Below w.heap.size w wr) (fun _ i _ => l.length - (intOf i).toNat)
  case atStart => exact ⟨0, by omega, rfl, rfl, Below.refl _ _⟩
  case round =>
    obtain ⟨k, hk, rfl, rfl, hb⟩ := hrel
    by_cases hlt : k < l.length
    · have HT := Lib.hid (Lb.text_take_succ l k hlt)
      have HR := Lib.hid (Lb.refTextC_eq l[k])
      have hc255 : ((l[k].toNat : Nat) : Int) ≤ 255 := by have := l[k].toNat_lt; omega
      have hlen := Lb.text_len (l.take k)
      have htk : (l.take k).length ≤ 1000000 := by simp; omega
      have H1 := Lib.hid (take_one l k hlt)
      have hel : (Lb.esc l[k]).length ≤ 4 := by simp [Lb.esc]
      by_cases hm : l[k] ∈ Lb.marks
      · have HC := Lib.hid (show Lb.refTextC l[k] = [92, l[k]] by simp [Lb.refTextC, hm])
        have hd : decide (l[k] ∈ Lb.marks) = true := by simpa using hm
        have HM := Lib.hid hd
        clear hm hd
        go_wp2_with (go_at_call 88; refine (refSpecial_at l[k] Lb.marks true HM.out _ (by decide)).mono ?_; rintro e w1 ⟨rfl, rfl⟩)
        exact ⟨⟨k + 1, by omega, by rw [append_S, append_S, H1.out, HT.out, ← HR.out, HC.out, List.append_assoc]; rfl, by go_num, hb⟩, by simp [intOf]; omega⟩
      · have hd : decide (l[k] ∈ Lb.marks) = false := by simpa using hm
        have HM := Lib.hid hd
        by_cases h1 : 33 ≤ l[k].toNat ∧ l[k].toNat ≤ 126
        · have HC := Lib.hid (show Lb.refTextC l[k] = [l[k]] by simp [Lb.refTextC, hm, h1])
          obtain ⟨h11, h12⟩ : 33 ≤ (l[k].toNat : Int) ∧ (l[k].toNat : Int) ≤ 126 := by omega
          clear hm hd h1
          go_wp2_with (go_at_call 88; refine (refSpecial_at l[k] Lb.marks false HM.out _ (by decide)).mono ?_; rintro e w1 ⟨rfl, rfl⟩)
          exact ⟨⟨k + 1, by omega, by rw [append_S, H1.out, HT.out, ← HR.out, HC.out], by go_num, hb⟩, by simp [intOf]; omega⟩
        · have HC := Lib.hid (show Lb.refTextC l[k] = Lb.esc l[k] by simp [Lb.refTextC, hm, h1])
          have h1' : (l[k].toNat : Int) < 33 ∨ 126 < (l[k].toNat : Int) := by omega
          clear hm hd h1
          rcases h1' with h1 | h1
          all_goals
            go_wp2_with (first
              | (go_at_call 88; refine (refSpecial_at l[k] Lb.marks false HM.out _ (by decide)).mono ?_; rintro e w1 ⟨rfl, rfl⟩)
              | (go_at_call 89; refine (refEscaped_any l[k] _).mono ?_; rintro e w2 ⟨rfl, hb2⟩))
            exact ⟨⟨k + 1, by omega, by rw [append_S, HT.out, ← HR.out, HC.out], by go_num, hb.trans (hb2.mono hb.size)⟩, by simp [intOf]; omega⟩
    · obtain rfl : l.length = k := by omega
      go_wp2
      go_ret
      exact ⟨ret_S (by rw [List.take_length]), hb⟩
end Go.Proofs.Ytikibmeopndncaa
