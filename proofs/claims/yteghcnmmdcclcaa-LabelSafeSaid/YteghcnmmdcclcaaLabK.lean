/- The law's own 'known'. -/
import Derived.Test.YteghcnmmdcclcaaLabH
namespace Go.Proofs.Yteghcnmmdcclcaa
open Go.RowKit Go.Shelf

theorem parse_at (s l : List UInt8) (z : Int) (h : Lb.parse s = (l, z)) (w : World) (hs : s.length ≤ 1000000) :
    Calls Try.prog 15 #[S s] w fun e w' => e = .returned (.tuple #[S l, .int .i64 z]) ∧ Below w.heap.size w w' := by
  have := parse_any s w hs; rw [h] at this; exact this
theorem split_at (s : List UInt8) (l : List (List UInt8)) (h : Lb.split s = some l) (h0 : 0 < l.length) (w : World) (hs : s.length ≤ 1000000) :
    Calls Try.prog 17 #[S s] w fun e w' => ∃ g off cap, e = .returned (.tuple #[.slice (some ⟨g, off, none⟩) l.length cap, .int .i64 0]) ∧ (l.length ≤ cap ∧ cap ≤ maxLen ∧ g < w'.heap.size ∧ ∀ j (h : j < l.length), w'.cell? ⟨g, off + j, none⟩ = some (S l[j])) ∧ Below w.heap.size w w' := by
  refine (split_any s w hs).mono ?_
  rintro e w' ⟨v, z, rfl, hr, hb⟩
  unfold SplitR at hr
  rw [h] at hr
  obtain ⟨rfl, (⟨_, rfl⟩ | ⟨g, off, cap, rfl, hr⟩)⟩ := hr
  · simp at h0
  · exact ⟨g, off, cap, rfl, hr, hb⟩

set_option maxRecDepth 100000 in
set_option maxHeartbeats 1000000 in
theorem known_any (w : World) :
    Calls Try.prog 8 #[] w fun e w' => e = .returned (.bool true) ∧ Below w.heap.size w w' := by
  have p1 := Lib.hid (show Lb.parse [97, 92, 46, 98, 92, 48, 48, 48, 92, 67] = ([97, 46, 98, 0, 67], 0) by decide +kernel)
  have p2 := Lib.hid (show Lb.parse [97, 46, 98] = ([], 2) by decide +kernel)
  have p3 := Lib.hid (show Lb.parse [92, 50, 53, 54] = ([], 7) by decide +kernel)
  have p4 := Lib.hid (show Lb.split [97, 92, 46, 98, 46, 99] = some [[97, 92, 46, 98], [99]] by decide +kernel)
  have p5 := Lib.hid (show Lb.text [97, 46, 98, 0, 67] = [97, 92, 46, 98, 92, 48, 48, 48, 67] by decide +kernel)
  have p6 := Lib.hid (show Lb.fold [65, 98, 91] = [97, 98, 91] by decide +kernel)
  have p7 := Lib.hid (show (Lb.fold [65, 98] == Lb.fold [97, 66]) = true by decide +kernel)
  have p8 := Lib.hid (show cmpL [66] [97] = 1 by decide +kernel)
  go_enter Try.func8, Try.ntmps8
  go_wp2_with fail
  refine (parse_at _ _ _ p1.out _ (by decide)).mono ?_
  rintro e w1 ⟨rfl, b1⟩
  go_wp2_with fail
  refine (parse_at _ _ _ p2.out _ (by decide)).mono ?_
  rintro e w2 ⟨rfl, b2⟩
  go_wp2_with fail
  refine (parse_at _ _ _ p3.out _ (by decide)).mono ?_
  rintro e w3 ⟨rfl, b3⟩
  go_wp2_with fail
  refine (split_at _ _ p4.out (by decide) _ (by decide)).mono ?_
  rintro e w4 ⟨g, off, cap, rfl, ⟨c1, c2, c3, c4⟩, b4⟩
  have hc := c4 0 (by decide)
  clear c4
  simp only [List.getElem_cons_zero, Nat.add_zero] at hc
  unfold maxLen at c2
  simp only [List.length_cons, List.length_nil, Nat.zero_add, Nat.reduceAdd] at c1
  go_wp2_with fail
  refine (text_any _ _ (by decide)).mono ?_
  rintro e w5 ⟨rfl, b5⟩
  rw [p5.out]
  have hc5 : w5.cell? ⟨g, off, none⟩ = some (S [97, 92, 46, 98]) := (b5.cell (p := ⟨g, off, none⟩) c3).trans hc
  clear hc
  go_wp2_with fail
  refine (fold_any _ _ (by decide)).mono ?_
  rintro e w6 ⟨rfl, b6⟩
  rw [p6.out]
  go_wp2_with fail
  refine (same_any _ _ _ (by decide) (by decide)).mono ?_
  rintro e w7 ⟨rfl, b7⟩
  rw [p7.out]
  go_wp2_with fail
  refine (compare_any _ _ _ (by decide) (by decide)).mono ?_
  rintro e w8 ⟨rfl, b8⟩
  rw [p8.out]
  go_wp2_with fail
  refine (check_any _ _ (by decide)).mono ?_
  rintro e w9 ⟨rfl, rfl⟩
  go_wp2_with fail
  go_ret
  refine ⟨rfl, ?_⟩
  have h1 := b1
  have h2 := h1.trans (b2.mono h1.size)
  have h3 := h2.trans (b3.mono h2.size)
  have h4 := h3.trans (b4.mono h3.size)
  have h5 := h4.trans (b5.mono h4.size)
  have h6 := h5.trans (b6.mono h5.size)
  have h7 := h6.trans (b7.mono h6.size)
  exact h7.trans (b8.mono h7.size)
end Go.Proofs.Yteghcnmmdcclcaa
