/- The walks of LabelText, LabelOrder. -/
import Derived.Test.YteghcnmmdcclcaaLabK
import Derived.Test.YteghcnmmdcclcaaLabSpec3
namespace Go.Proofs.Yteghcnmmdcclcaa
open Go.RowKit Go.Shelf

set_option maxRecDepth 100000 in
set_option maxHeartbeats 1000000 in
theorem walkLabelText (l : List UInt8) (w : World) (hl : l.length ≤ maxLen) :
    Calls Try.prog 3 #[S l] w fun e w' => e = .returned (.bool true) ∧ Below w.heap.size w w' := by
  unfold maxLen at hl
  by_cases h100 : 100 < l.length
  · go_enter Try.func3, Try.ntmps3
    go_wp2_with (go_at_call 8; refine (known_any _).mono ?_; rintro e w1 ⟨rfl, b1⟩)
    go_ret
    exact ⟨rfl, b1⟩
  · have hs : l.length ≤ 1000000 := by omega
    have ht := Lb.text_len l
    obtain ⟨c, hc⟩ : ∃ c, Lb.check l.length = c := ⟨_, rfl⟩
    obtain ⟨t, htx⟩ : ∃ t, Lb.text l = t := ⟨_, rfl⟩
    obtain ⟨f, hf⟩ : ∃ f, Lb.fold l = f := ⟨_, rfl⟩
    have hp := Lb.parse_text l
    rw [htx, hc] at hp
    rw [htx] at ht
    have HC := Lib.hid hc
    have HT := Lib.hid htx
    have HF := Lib.hid hf
    clear hc htx hf
    by_cases h0 : c = 0
    · subst h0
      have HP := Lib.hid (show Lb.parse t = (l, 0) by rw [hp]; rfl)
      clear hp
      go_enter Try.func3, Try.ntmps3
      go_wp2_with fail
      refine (known_any _).mono ?_
      rintro e w1 ⟨rfl, b1⟩
      go_wp2_with fail
      refine (refCheck_any l _ hs).mono ?_
      rintro e w2 ⟨rfl, rfl⟩
      rw [HC.out]
      go_wp2_with fail
      refine (text_any l _ hs).mono ?_
      rintro e w3 ⟨rfl, b3⟩
      rw [HT.out]
      go_wp2_with fail
      refine (check_any l _ hs).mono ?_
      rintro e w4 ⟨rfl, rfl⟩
      rw [HC.out]
      go_wp2_with fail
      refine (refText_any l _ hs).mono ?_
      rintro e w5 ⟨rfl, b5⟩
      rw [HT.out]
      go_wp2_with fail
      refine (fold_any l _ hs).mono ?_
      rintro e w6 ⟨rfl, b6⟩
      rw [HF.out]
      go_wp2_with fail
      refine (refFold_any l _ hs).mono ?_
      rintro e w7 ⟨rfl, b7⟩
      rw [HF.out]
      go_wp2_with fail
      refine (parse_at t _ _ HP.out _ (by omega)).mono ?_
      rintro e w8 ⟨rfl, b8⟩
      go_wp2_with fail
      go_ret
      have h3 := b1.trans (b3.mono b1.size)
      have h5 := h3.trans (b5.mono h3.size)
      have h6 := h5.trans (b6.mono h5.size)
      have h7 := h6.trans (b7.mono h6.size)
      exact ⟨rfl, h7.trans (b8.mono h7.size)⟩
    · have HP := Lib.hid (show Lb.parse t = ([], c) by rw [hp, if_neg h0])
      clear hp
      have hc1 : (c != 0) = true := by simpa using h0
      have hc2 : (c == 0) = false := by simpa using h0
      clear h0
      go_enter Try.func3, Try.ntmps3
      go_wp2_with fail
      refine (known_any _).mono ?_
      rintro e w1 ⟨rfl, b1⟩
      go_wp2_with fail
      refine (refCheck_any l _ hs).mono ?_
      rintro e w2 ⟨rfl, rfl⟩
      rw [HC.out]
      go_wp2_with fail
      refine (text_any l _ hs).mono ?_
      rintro e w3 ⟨rfl, b3⟩
      rw [HT.out]
      go_wp2_with fail
      refine (check_any l _ hs).mono ?_
      rintro e w4 ⟨rfl, rfl⟩
      rw [HC.out]
      go_wp2_with fail
      refine (refText_any l _ hs).mono ?_
      rintro e w5 ⟨rfl, b5⟩
      rw [HT.out]
      go_wp2_with fail
      refine (fold_any l _ hs).mono ?_
      rintro e w6 ⟨rfl, b6⟩
      rw [HF.out]
      go_wp2_with fail
      refine (refFold_any l _ hs).mono ?_
      rintro e w7 ⟨rfl, b7⟩
      rw [HF.out]
      go_wp2_with fail
      refine (parse_at t _ _ HP.out _ (by omega)).mono ?_
      rintro e w8 ⟨rfl, b8⟩
      go_wp2_with fail
      go_ret
      have h3 := b1.trans (b3.mono b1.size)
      have h5 := h3.trans (b5.mono h3.size)
      have h6 := h5.trans (b6.mono h5.size)
      have h7 := h6.trans (b7.mono h6.size)
      exact ⟨rfl, h7.trans (b8.mono h7.size)⟩

theorem fold_fold (l : List UInt8) : Lb.fold (Lb.fold l) = Lb.fold l := by
  have h : ∀ c, Lb.low (Lb.low c) = Lb.low c := by
    have h : ∀ n : Fin 256, Lb.low (Lb.low (UInt8.ofFin n)) = Lb.low (UInt8.ofFin n) := by decide +kernel
    intro c; exact h c.toFin
  simp [Lb.fold, h]
theorem cmpL_fold (a b : List UInt8) : cmpL (Lb.fold a) b = cmpL a b := by unfold cmpL; rw [fold_fold]
theorem fold_length (l : List UInt8) : (Lb.fold l).length = l.length := by simp [Lb.fold]
theorem below5 {w w1 w2 : World} (h : Below w.heap.size w w1) (k : Below w1.heap.size w1 w2) : Below w.heap.size w w2 := h.trans (k.mono h.size)

set_option maxRecDepth 100000 in
set_option maxHeartbeats 1000000 in
theorem walkLabelOrder (a b c : List UInt8) (w : World) (ha : a.length ≤ maxLen) (hb : b.length ≤ maxLen) (hc : c.length ≤ maxLen) :
    Calls Try.prog 5 #[S a, S b, S c] w fun e w' => e = .returned (.bool true) ∧ Below w.heap.size w w' := by
  unfold maxLen at ha hb hc
  by_cases h100 : 100 < a.length ∨ 100 < b.length ∨ 100 < c.length
  · have h' : 100 < (a.length : Int) ∨ (a.length : Int) ≤ 100 ∧ 100 < (b.length : Int) ∨ (a.length : Int) ≤ 100 ∧ (b.length : Int) ≤ 100 ∧ 100 < (c.length : Int) := by omega
    clear h100
    rcases h' with h | ⟨h1, h⟩ | ⟨h1, h2, h⟩
    all_goals
      go_enter Try.func5, Try.ntmps5
      go_wp2_with (go_at_call 8; refine (known_any _).mono ?_; rintro e w1 ⟨rfl, b1⟩)
      go_ret
      exact ⟨rfl, b1⟩
  · have sa : a.length ≤ 1000000 := by omega
    have sb : b.length ≤ 1000000 := by omega
    have sc : c.length ≤ 1000000 := by omega
    obtain ⟨x, hx⟩ : ∃ x, cmpL a b = x := ⟨_, rfl⟩
    obtain ⟨y, hy⟩ : ∃ y, cmpL b c = y := ⟨_, rfl⟩
    obtain ⟨z, hz⟩ : ∃ z, cmpL a c = z := ⟨_, rfl⟩
    have hba : cmpL b a = 0 - x := by rw [← hx]; unfold cmpL; rw [cmp_anti]; omega
    have hsame : (Lb.fold a == Lb.fold b) = (x == 0) := by
      rw [← hx, Bool.eq_iff_iff]; simp [cmpL, cmp_eq_zero]
    have hself : (Lb.fold a == Lb.fold (Lb.fold a)) = true := by rw [fold_fold]; simp
    have hfa : cmpL (Lb.fold a) b = x := by rw [cmpL_fold, hx]
    have htr : 0 < x ∨ 0 < y ∨ z ≤ 0 := by
      have := cmp_trans (Lb.fold a) (Lb.fold b) (Lb.fold c)
      unfold cmpL at hx hy hz
      rw [hx, hy, hz] at this; omega
    have hxr : -1 ≤ x ∧ x ≤ 1 := by have := cmp_range (Lb.fold a) (Lb.fold b); unfold cmpL at hx; rw [hx] at this; omega
    obtain ⟨x1, x2⟩ := hxr
    have HX := Lib.hid hx
    have HY := Lib.hid hy
    have HZ := Lib.hid hz
    have HBA := Lib.hid hba
    have HSA := Lib.hid hsame
    have HSE := Lib.hid hself
    have HFA := Lib.hid hfa
    clear hx hy hz hba hsame hself hfa
    have h' : (a.length : Int) ≤ 100 ∧ (b.length : Int) ≤ 100 ∧ (c.length : Int) ≤ 100 := by omega
    obtain ⟨l1, l2, l3⟩ := h'
    clear h100
    have hz' : 0 < x ∨ x ≤ 0 ∧ 0 < y ∨ x ≤ 0 ∧ y ≤ 0 ∧ z ≤ 0 := by omega
    clear htr
    have hsub : IntKind.i64.wrap (0 - x) = 0 - x := IntWalk.i64_in _ (by omega)
    rcases hz' with hz' | ⟨h1, hz'⟩ | ⟨h1, h2, hz'⟩
    all_goals
      go_enter Try.func5, Try.ntmps5
      go_wp2_with fail
      refine (known_any _).mono ?_
      rintro e w1 ⟨rfl, b1⟩
      go_wp2_with fail
      refine (compare_any a b _ sa sb).mono ?_
      rintro e w2 ⟨rfl, b2⟩
      rw [HX.out]
      replace b2 := below5 b1 b2
      go_wp2_with fail
      refine (compare_any b c _ sb sc).mono ?_
      rintro e w3 ⟨rfl, b3⟩
      rw [HY.out]
      replace b3 := below5 b2 b3
      go_wp2_with fail
      refine (refCompare_any a b _ sa sb).mono ?_
      rintro e w4 ⟨rfl, b4⟩
      rw [HX.out]
      replace b4 := below5 b3 b4
      go_wp2_with fail
      refine (compare_any b a _ sb sa).mono ?_
      rintro e w5 ⟨rfl, b5⟩
      rw [HBA.out]
      replace b5 := below5 b4 b5
      go_wp2_with fail
      refine (same_any a b _ sa sb).mono ?_
      rintro e w6 ⟨rfl, b6⟩
      rw [HSA.out]
      replace b6 := below5 b5 b6
      go_wp2_with fail
      refine (fold_any a _ sa).mono ?_
      rintro e w7 ⟨rfl, b7⟩
      replace b7 := below5 b6 b7
      go_wp2_with fail
      refine (same_any a (Lb.fold a) _ sa (by rw [fold_length]; exact sa)).mono ?_
      rintro e w8 ⟨rfl, b8⟩
      rw [HSE.out]
      replace b8 := below5 b7 b8
      go_wp2_with fail
      refine (fold_any a _ sa).mono ?_
      rintro e w9 ⟨rfl, b9⟩
      replace b9 := below5 b8 b9
      go_wp2_with fail
      refine (compare_any (Lb.fold a) b _ (by rw [fold_length]; exact sa) sb).mono ?_
      rintro e w10 ⟨rfl, b10⟩
      rw [HFA.out]
      replace b10 := below5 b9 b10
      go_wp2_with (go_at_call 19; refine (compare_any a c _ sa sc).mono ?_; rintro e w11 ⟨rfl, b11⟩; rw [HZ.out]; replace b11 := below5 b10 b11)
      go_ret
      first | exact ⟨rfl, b11⟩ | exact ⟨rfl, b10⟩
end Go.Proofs.Yteghcnmmdcclcaa
