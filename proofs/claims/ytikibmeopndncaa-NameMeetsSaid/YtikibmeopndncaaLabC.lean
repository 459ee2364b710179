/- label.digits, escaped. -/
import Derived.Test.YtikibmeopndncaaLabB
import Derived.Deep.QuietTactic
import Derived.BigQuiet
namespace Go.Proofs.Ytikibmeopndncaa
open Go.RowKit Go.Shelf
set_option maxRecDepth 100000
attribute [local go_sem] Oper.semAt_some

def DigN (s : List UInt8) (n : Nat) : Prop := n ≤ 3 ∧ ∃ h : n ≤ s.length, (∀ j (hj : j < n), Lb.isDig (s[j]'(by omega))) ∧ (n = 3 ∨ n = s.length ∨ ∃ hn : n < s.length, ¬ Lb.isDig s[n])
def DigP (s : List UInt8) (w : World) (e : Ending) (w' : World) : Prop := ∃ n : Nat, DigN s n ∧ e = .returned (.int .i64 n) ∧ w = w'
def DigTo (s : List UInt8) (k : Nat) : Prop := k ≤ 3 ∧ ∃ h : k ≤ s.length, (∀ j (hj : j < k), Lb.isDig (s[j]'(by omega)))
theorem DigTo.zero (s : List UInt8) : DigTo s 0 := ⟨by omega, by omega, fun j hj => by omega⟩
theorem DigTo.succ {s : List UInt8} {k : Nat} (h : DigTo s k) (h3 : k < 3) (hl : k < s.length) (hd : Lb.isDig s[k]) : DigTo s (k + 1) := by
  obtain ⟨h1, h2, h4⟩ := h
  refine ⟨by omega, by omega, fun j hj => ?_⟩
  by_cases e : j = k
  · subst e; exact hd
  · exact h4 j (by omega)
theorem DigTo.done {s : List UInt8} {k : Nat} (h : DigTo s k) (hd : ¬ (k < 3 ∧ k < s.length)) : DigN s k := by
  obtain ⟨h1, h2, h4⟩ := h
  exact ⟨h1, h2, h4, by omega⟩
theorem DigTo.stop {s : List UInt8} {k : Nat} (h : DigTo s k) (hl : k < s.length) (hd : ¬ Lb.isDig s[k]) : DigN s k := by
  obtain ⟨h1, h2, h4⟩ := h
  exact ⟨h1, h2, h4, .inr (.inr ⟨hl, hd⟩)⟩

set_option maxHeartbeats 1000000 in
theorem digits_any (s : List UInt8) (w : World) (hs : s.length ≤ 1000000) :
    Calls Try.prog 113 #[S s] w (DigP s w) := by
  go_enter Try.func113, Try.ntmps113
  go_wp2
  go_loop [3] (fun i => ∃ k : Nat, DigTo s k ∧ i = .int .i64 k) (fun i => s.length - (intOf i).toNat)
  case atStart => exact ⟨0, DigTo.zero s, rfl⟩
  case round =>
    obtain ⟨k, hto, rfl⟩ := hrel
    obtain ⟨hk3, hks, _⟩ := id hto
    by_cases h3 : k < 3 ∧ k < s.length
    · obtain ⟨h3, hlt⟩ := h3
      by_cases hd : Lb.isDig s[k]
      · have hn := hto.succ h3 hlt hd
        obtain ⟨hd1, hd2⟩ : 48 ≤ (s[k].toNat : Int) ∧ (s[k].toNat : Int) ≤ 57 := by have := hd.1; have := hd.2; omega
        clear hd
        go_wp2
        exact ⟨⟨k + 1, hn, by go_num⟩, by simp [intOf]; omega⟩
      · have hn := hto.stop hlt hd
        clear hd
        go_wp2
        all_goals first
          | (exfalso; have h2 : 48 ≤ (s[k].toNat : Int) := by assumption
             have h3 : (s[k].toNat : Int) ≤ 57 := by assumption
             obtain ⟨_, _, _, h5⟩ := hn
             rcases h5 with h5 | h5 | ⟨_, h5⟩
             · omega
             · omega
             · exact h5 ⟨by omega, by omega⟩)
          | (go_ret; exact ⟨k, hn, rfl, rfl⟩)
    · have hn := hto.done h3
      go_wp2
      all_goals go_ret
      all_goals exact ⟨k, hn, rfl, rfl⟩

def EscP (s : List UInt8) (w : World) (e : Ending) (w' : World) : Prop := e = .returned (.tuple #[.int .u8 (Lb.escd s).1.toNat, .int .i64 (Lb.escd s).2.1, .int .i64 (Lb.escd s).2.2]) ∧ Below w.heap.size w w'

theorem EscP.mk {s : List UInt8} {w w' : World} {a : Int} {b c : Int} (x : UInt8) (y : Nat) (z : Int) (h : Lb.escd s = (x, y, z)) (ha : a = x.toNat) (hb : b = y) (hc : c = z) (hw : Below w.heap.size w w') : EscP s w (.returned (.tuple #[.int .u8 a, .int .i64 b, .int .i64 c])) w' := by
  subst ha; subst hb; subst hc; unfold EscP; rw [h]; exact ⟨rfl, hw⟩

theorem digN_nil {n : Nat} (h : DigN [] n) : n = 0 := by obtain ⟨_, h2, _⟩ := h; simpa using h2
theorem digN_not {n : Nat} {a : UInt8} {r : List UInt8} (h : DigN (a :: r) n) (ha : ¬ Lb.isDig a) : n = 0 := by
  obtain ⟨_, h2, h3, _⟩ := h
  rcases Nat.eq_zero_or_pos n with e | e
  · exact e
  · exact absurd (h3 0 e) ha
theorem digN_three {n : Nat} {a b c : UInt8} {r : List UInt8} (h : DigN (a :: b :: c :: r) n) (ha : Lb.isDig a) (hb : Lb.isDig b) (hc : Lb.isDig c) : n = 3 := by
  obtain ⟨h1, h2, h3, h4⟩ := h
  rcases h4 with h4 | h4 | h45
  · exact h4
  · simp at h4; omega
  · match n, h45 with
    | 0, ⟨_, h5⟩ => exact absurd ha h5
    | 1, ⟨_, h5⟩ => exact absurd hb h5
    | 2, ⟨_, h5⟩ => exact absurd hc h5
    | n + 3, _ => omega
theorem digN_some {n : Nat} {a : UInt8} {r : List UInt8} (h : DigN (a :: r) n) (ha : Lb.isDig a) (hr : ∀ b c t, r = b :: c :: t → ¬ (Lb.isDig b ∧ Lb.isDig c)) : n = 1 ∨ n = 2 := by
  obtain ⟨h1, h2, h3, h4⟩ := h
  have h0 : n ≠ 0 := by
    rintro rfl
    rcases h4 with h4 | h4 | ⟨h4, h5⟩
    · omega
    · simp at h4
    · exact h5 ha
  have h3' : n ≠ 3 := by
    rintro rfl
    match r, h2, h3, hr with
    | [], h2, _, _ => simp at h2
    | [_], h2, _, _ => simp at h2
    | b :: c :: t, _, h3, hr => exact hr b c t rfl ⟨h3 1 (by omega), h3 2 (by omega)⟩
  omega
set_option maxHeartbeats 1000000 in
theorem escaped_any (s : List UInt8) (w : World) (hs : s.length ≤ 1000000) :
    Calls Try.prog 108 #[S s] w (EscP s w) := by
  match s with
  | [] =>
    go_enter Try.func108, Try.ntmps108
    go_wp2_with (go_at_call 113; refine (digits_any [] _ hs).mono ?_; rintro e w' ⟨n, hn, rfl, rfl⟩; obtain rfl := digN_nil hn; clear hn)
    go_ret3
    exact EscP.mk 0 0 2 rfl rfl rfl rfl (Below.refl _ _)
  | a :: r =>
    simp only [List.length_cons] at hs
    have hpos : (0 : Int) < ((a :: r).length : Int) := by simp
    by_cases ha : Lb.isDig a
    · by_cases hr : ∃ b c t, r = b :: c :: t ∧ Lb.isDig b ∧ Lb.isDig c
      · obtain ⟨b, c, t, rfl, hb, hc⟩ := hr
        have H3 := Lib.hid (show ∀ n, DigN (a :: b :: c :: t) n → n = 3 from fun _ h => digN_three h ha hb hc)
        have HE := Lib.hid (Lb.escd_three (r := t) ha hb hc)
        have HN := Lib.hid (Lb.num3_le a b c ha hb hc)
        obtain ⟨a1, a2⟩ : 48 ≤ (a.toNat : Int) ∧ (a.toNat : Int) ≤ 57 := by have := ha.1; have := ha.2; omega
        obtain ⟨b1, b2⟩ : 48 ≤ (b.toNat : Int) ∧ (b.toNat : Int) ≤ 57 := by have := hb.1; have := hb.2; omega
        obtain ⟨c1, c2⟩ : 48 ≤ (c.toNat : Int) ∧ (c.toNat : Int) ≤ 57 := by have := hc.1; have := hc.2; omega
        clear ha hb hc
        go_enter Try.func108, Try.ntmps108
        go_wp2_with (go_at_call 113; refine (digits_any _ _ (by simpa using hs)).mono ?_; rintro e w' ⟨n, hn, rfl, rfl⟩; obtain rfl := H3.out _ hn; clear hn)
        go_quiet (fail)
        go_wp2
        all_goals go_ret3
        · have h : (255 : Int) < 100 * (a.toNat - 48) + 10 * (b.toNat - 48) + (c.toNat - 48) := by assumption
          rw [← HN.out] at h
          exact EscP.mk 0 0 7 (by rw [HE.out, if_pos (by omega)]) rfl rfl rfl (below_drewN (Below.refl _ _) _)
        · have h : 100 * ((a.toNat : Int) - 48) + 10 * (b.toNat - 48) + (c.toNat - 48) ≤ (255 : Int) := by assumption
          rw [← HN.out] at h
          exact EscP.mk (UInt8.ofNat (Lb.num3 a b c)) 3 0 (by rw [HE.out, if_neg (by omega)]) (by rw [← HN.out]; simp; omega) rfl rfl (below_drewN (Below.refl _ _) _)
      · have hr' : ∀ b c t, r = b :: c :: t → ¬ (Lb.isDig b ∧ Lb.isDig c) := fun b c t e h => hr ⟨b, c, t, e, h.1, h.2⟩
        have H1 := Lib.hid (show ∀ n, DigN (a :: r) n → n = 1 ∨ n = 2 from fun _ h => digN_some h ha hr')
        have HE := Lib.hid (Lb.escd_some ha hr')
        clear hr hr' ha
        go_enter Try.func108, Try.ntmps108
        go_wp2_with (go_at_call 113; refine (digits_any _ _ (by simpa using hs)).mono ?_; rintro e w' ⟨n, hn, rfl, rfl⟩; rcases H1.out _ hn with rfl | rfl <;> clear hn)
        all_goals go_ret3
        all_goals exact EscP.mk 0 0 2 HE.out rfl rfl rfl (Below.refl _ _)
    · have H0 := Lib.hid (show ∀ n, DigN (a :: r) n → n = 0 from fun _ h => digN_not h ha)
      have HE := Lib.hid (Lb.escd_not (r := r) ha)
      clear ha
      go_enter Try.func108, Try.ntmps108
      go_wp2_with (go_at_call 113; refine (digits_any _ _ (by simpa using hs)).mono ?_; rintro e w' ⟨n, hn, rfl, rfl⟩; obtain rfl := H0.out _ hn; clear hn)
      all_goals go_ret3
      all_goals exact EscP.mk a 1 0 HE.out rfl rfl rfl (Below.refl _ _)
end Go.Proofs.Ytikibmeopndncaa
