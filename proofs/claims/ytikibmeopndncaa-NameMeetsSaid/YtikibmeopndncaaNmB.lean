/- Names: alike, below. -/
import Derived.Test.YtikibmeopndncaaNmA
namespace Go.Proofs.Ytikibmeopndncaa
open Go.RowKit Go.Shelf
set_option maxRecDepth 100000

set_option maxHeartbeats 1000000 in
theorem equal_any (v u : Value) (a b : List (List UInt8)) (w : World) (hv : Rd v a w) (hu : Rd u b w) (ha : NB a) (hb : NB b) :
    Calls Try.prog 68 #[v, u, .func (.func 69) #[] #[]] w (Gives (.bool (Nm.same a b)) w) := by
  obtain ⟨o, cap, rfl, h1, h2⟩ := hv.form
  obtain ⟨o', cap', rfl, h1', h2'⟩ := hu.form
  have HC := Lib.hid hv.cells
  have HD := Lib.hid hu.cells
  have na : (a.length : Int) ≤ 1000 := by have := ha.1; omega
  have nb : (b.length : Int) ≤ 1000 := by have := hb.1; omega
  have GA := Lib.hid (show ∀ k (h : k < a.length), a[k].length ≤ 1000000 from fun k h => by have := ha.get h; omega)
  have GB := Lib.hid (show ∀ k (h : k < b.length), b[k].length ≤ 1000000 from fun k h => by have := hb.get h; omega)
  clear hv hu ha hb
  by_cases hab : a.length = b.length
  · have hab' : ((a.length : Int) != b.length) = false := by simp [hab]
    have HAB := Lib.hid hab
    clear hab
    go_enter Try.func68, Try.ntmps68
    go_wp2
    go_loopw [17] (fun i wr => ∃ k : Nat, Nm.sameTo a b k ∧ i = .int .i64 k ∧ Below w.heap.size w wr) (fun i _ => a.length - (intOf i).toNat)
    case atStart => exact ⟨0, ⟨by omega, fun j _ _ h => by omega⟩, rfl, Below.refl _ _⟩
    case round =>
      obtain ⟨k, hto, rfl, hb⟩ := hrel
      by_cases hlt : k < a.length
      · have hlt' : k < b.length := by have := HAB.out; omega
        obtain ⟨x, rfl, e1⟩ := HC.out _ hb k hlt
        obtain ⟨y, rfl, e2⟩ := HD.out _ hb k hlt'
        have g1 := GA.out k hlt
        have g2 := GB.out k hlt'
        obtain ⟨be, hbe⟩ : ∃ be, (Lb.fold a[k] == Lb.fold b[k]) = be := ⟨_, rfl⟩
        cases be with
        | true =>
          have HT := Lib.hid (hto.step hlt hlt' (eq_of_beq hbe))
          have HB := Lib.hid hbe
          clear hto hbe
          go_wp2_with fail
          refine (same_any a[k] b[k] _ g1 g2).mono ?_
          rintro e w1 ⟨rfl, b1⟩
          rw [HB.out]
          go_wp2_with fail
          exact ⟨⟨k + 1, HT.out, by go_num, below5 hb b1⟩, by simp [intOf]; omega⟩
        | false =>
          have HF := Lib.hid (Nm.same_not hlt hlt' (by simpa using hbe))
          have HB := Lib.hid hbe
          clear hto hbe
          go_wp2_with fail
          refine (same_any a[k] b[k] _ g1 g2).mono ?_
          rintro e w1 ⟨rfl, b1⟩
          rw [HB.out]
          go_wp2_with fail
          go_ret
          exact ⟨by rw [HF.out]; rfl, below5 hb b1⟩
      · have HF := Lib.hid (hto.done hlt HAB.out)
        go_wp2
        go_ret
        exact ⟨by rw [HF.out]; rfl, hb⟩
  · have hab' : ((a.length : Int) != b.length) = true := by simp; omega
    have HF := Lib.hid (Nm.same_len hab)
    go_enter Try.func68, Try.ntmps68
    go_wp2
    go_ret
    exact ⟨by rw [HF.out]; rfl, Below.refl _ _⟩

set_option maxHeartbeats 1000000 in
theorem nSame_any (v u : Value) (a b : List (List UInt8)) (w : World) (hv : Rd v a w) (hu : Rd u b w) (ha : NB a) (hb : NB b) :
    Calls Try.prog 34 #[v, u] w (Gives (.bool (Nm.same a b)) w) := by
  go_enter Try.func34, Try.ntmps34
  go_wp2_with fail
  refine (equal_any v u a b _ hv hu ha hb).mono ?_
  rintro e w1 ⟨rfl, b1⟩
  go_wp2_with fail
  go_ret
  exact ⟨rfl, b1⟩

theorem Nm.under_le {a b : List (List UInt8)} (h : b.length ≤ a.length) : Nm.under a b = Nm.same (a.drop (a.length - b.length)) b := by simp [Nm.under, h]
theorem Nm.under_lt {a b : List (List UInt8)} (h : a.length < b.length) : Nm.under a b = false := by simp [Nm.under]; omega

set_option maxHeartbeats 1000000 in
theorem refUnder_any (v u : Value) (a b : List (List UInt8)) (w : World) (hv : Rd v a w) (hu : Rd u b w) (ha : NB a) (hb : NB b) :
    Calls Try.prog 37 #[v, u] w (Gives (.bool (Nm.under a b)) w) := by
  obtain ⟨o, cap, rfl, h1, h2⟩ := hv.form
  obtain ⟨o', cap', rfl, h1', h2'⟩ := hu.form
  have na : (a.length : Int) ≤ 1000 := by have := ha.1; omega
  have nb : (b.length : Int) ≤ 1000 := by have := hb.1; omega
  have HU := Lib.hid hu
  by_cases hab : b.length ≤ a.length
  · have hab' : (b.length : Int) ≤ a.length := by omega
    have HU := Lib.hid (Nm.under_le hab)
    have HT0 := Lib.hid (fun hc => hv.tail0 (a.length - b.length) (by omega) hc)
    have HT := Lib.hid (hv.tail (a.length - b.length) (by omega))
    have ND := Lib.hid (ha.drop (a.length - b.length))
    clear hv hab
    go_enter Try.func37, Try.ntmps37
    go_wp2_with fail
    · refine (refSame_any _ _ _ b _ (HT0.out (by assumption)) hu ND.out hb).mono ?_
      rintro e w1 ⟨rfl, b1⟩
      rw [← HU.out]
      go_wp2_with fail
      go_ret
      exact ⟨rfl, b1⟩
    · refine (refSame_any _ _ _ b _ HT.out hu ND.out hb).mono ?_
      rintro e w1 ⟨rfl, b1⟩
      rw [← HU.out]
      go_wp2_with fail
      go_ret
      exact ⟨rfl, b1⟩
  · have hab' : (a.length : Int) < b.length := by omega
    have HF := Lib.hid (Nm.under_lt (show a.length < b.length by omega))
    clear hab
    go_enter Try.func37, Try.ntmps37
    go_wp2_with fail
    go_ret
    exact ⟨by rw [HF.out]; rfl, Below.refl _ _⟩

set_option maxHeartbeats 1000000 in
theorem nUnder_any (v u : Value) (a b : List (List UInt8)) (w : World) (hv : Rd v a w) (hu : Rd u b w) (ha : NB a) (hb : NB b) :
    Calls Try.prog 36 #[v, u] w (Gives (.bool (Nm.under a b)) w) := by
  obtain ⟨o, cap, rfl, h1, h2⟩ := hv.form
  obtain ⟨o', cap', rfl, h1', h2'⟩ := hu.form
  have na : (a.length : Int) ≤ 1000 := by have := ha.1; omega
  have nb : (b.length : Int) ≤ 1000 := by have := hb.1; omega
  have HU := Lib.hid hu
  by_cases hab : b.length ≤ a.length
  · have hab' : (b.length : Int) ≤ a.length := by omega
    have HU := Lib.hid (Nm.under_le hab)
    have HT0 := Lib.hid (fun hc => hv.tail0 (a.length - b.length) (by omega) hc)
    have HT := Lib.hid (hv.tail (a.length - b.length) (by omega))
    have ND := Lib.hid (ha.drop (a.length - b.length))
    clear hv hab
    go_enter Try.func36, Try.ntmps36
    go_wp2_with fail
    · refine (nSame_any _ _ _ b _ (HT0.out (by assumption)) hu ND.out hb).mono ?_
      rintro e w1 ⟨rfl, b1⟩
      rw [← HU.out]
      go_wp2_with fail
      go_ret
      exact ⟨rfl, b1⟩
    · refine (nSame_any _ _ _ b _ HT.out hu ND.out hb).mono ?_
      rintro e w1 ⟨rfl, b1⟩
      rw [← HU.out]
      go_wp2_with fail
      go_ret
      exact ⟨rfl, b1⟩
  · have hab' : (a.length : Int) < b.length := by omega
    have HF := Lib.hid (Nm.under_lt (show a.length < b.length by omega))
    clear hab
    go_enter Try.func36, Try.ntmps36
    go_wp2_with fail
    go_ret
    exact ⟨by rw [HF.out]; rfl, Below.refl _ _⟩

end Go.Proofs.Ytikibmeopndncaa
