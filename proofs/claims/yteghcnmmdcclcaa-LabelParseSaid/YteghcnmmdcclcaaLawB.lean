/- The walk of LabelParse. -/
import Derived.Test.YteghcnmmdcclcaaLawA
import Derived.Deep.QuietTactic
import Derived.BigQuiet
namespace Go.Proofs.Yteghcnmmdcclcaa
open Go.RowKit Go.Shelf

theorem Lb.splitF_pos : ∀ (n : Nat) (cur s : List UInt8) (l : List (List UInt8)), s.length ≤ n → Lb.splitF cur s = some l → 0 < l.length
  | _, cur, [], l, _, h => by simp only [Lb.splitF, Option.some.injEq] at h; subst h; simp
  | 0, cur, c :: r, l, hn, h => by simp at hn
  | n + 1, cur, c :: r, l, hn, h => by
    simp only [List.length_cons] at hn
    unfold Lb.splitF at h
    split at h
    · obtain ⟨x, hx, rfl⟩ := Option.map_eq_some_iff.1 h
      simp
    · split at h
      · match r, hn, h with
        | [], _, h => cases h
        | d :: r, hn, h => exact Lb.splitF_pos n _ r l (by simp at hn; omega) h
      · exact Lb.splitF_pos n _ r l (by omega) h
theorem Lb.split_pos {s l} (h : Lb.split s = some l) : 0 < l.length := Lb.splitF_pos s.length [] s l (Nat.le_refl _) h

theorem split_none (s : List UInt8) (h : Lb.split s = none) (w : World) (hs : s.length ≤ 1000000) :
    Calls Try.prog 17 #[S s] w fun e w' => e = .returned (.tuple #[.slice none 0 0, .int .i64 2]) ∧ Below w.heap.size w w' := by
  refine (split_any s w hs).mono ?_
  rintro e w' ⟨v, z, rfl, hr, hb⟩
  unfold SplitR at hr; rw [h] at hr
  obtain ⟨rfl, rfl⟩ := hr
  exact ⟨rfl, hb⟩
theorem refSplit_none (s : List UInt8) (h : Lb.split s = none) (w : World) (hs : s.length ≤ 1000000) :
    Calls Try.prog 18 #[S s] w fun e w' => e = .returned (.tuple #[.slice none 0 0, .int .i64 2]) ∧ Below w.heap.size w w' := by
  refine (refSplit_any s w hs).mono ?_
  rintro e w' ⟨v, z, rfl, hr, hb⟩
  unfold SplitR at hr; rw [h] at hr
  obtain ⟨rfl, rfl⟩ := hr
  exact ⟨rfl, hb⟩
theorem refSplit_at (s : List UInt8) (l : List (List UInt8)) (h : Lb.split s = some l) (h0 : 0 < l.length) (w : World) (hs : s.length ≤ 1000000) :
    Calls Try.prog 18 #[S s] w fun e w' => ∃ g off cap, e = .returned (.tuple #[.slice (some ⟨g, off, none⟩) l.length cap, .int .i64 0]) ∧ (l.length ≤ cap ∧ cap ≤ maxLen ∧ g < w'.heap.size ∧ ∀ j (h : j < l.length), w'.cell? ⟨g, off + j, none⟩ = some (S l[j])) ∧ Below w.heap.size w w' := by
  refine (refSplit_any s w hs).mono ?_
  rintro e w' ⟨v, z, rfl, hr, hb⟩
  unfold SplitR at hr
  rw [h] at hr
  obtain ⟨rfl, (⟨_, rfl⟩ | ⟨g, off, cap, rfl, hr⟩)⟩ := hr
  · simp at h0
  · exact ⟨g, off, cap, rfl, hr, hb⟩

set_option maxRecDepth 100000 in
set_option maxHeartbeats 1000000 in
theorem walkLabelParse (s : List UInt8) (w : World) (hl : s.length ≤ maxLen) :
    Calls Try.prog 4 #[S s] w fun e w' => e = .returned (.bool true) ∧ Below w.heap.size w w' := by
  unfold maxLen at hl
  by_cases h100 : 300 < s.length
  · go_enter Try.func4, Try.ntmps4
    go_wp2_with (go_at_call 8; refine (known_any _).mono ?_; rintro e w1 ⟨rfl, b1⟩)
    go_ret
    exact ⟨rfl, b1⟩
  · have hs : s.length ≤ 1000000 := by omega
    obtain ⟨⟨l, z⟩, hp⟩ : ∃ p, Lb.parse s = p := ⟨_, rfl⟩
    have HP := Lib.hid hp
    clear hp
    have h300 : (s.length : Int) ≤ 300 := by omega
    clear h100
    rcases hsp : Lb.split s with _ | parts
    · have HS := Lib.hid hsp
      clear hsp
      go_enter Try.func4, Try.ntmps4
      go_wp2_with fail
      refine (known_any _).mono ?_
      rintro e w1 ⟨rfl, b1⟩
      go_wp2_with fail
      refine (parse_at s _ _ HP.out _ hs).mono ?_
      rintro e w2 ⟨rfl, b2⟩
      replace b2 := below5 b1 b2
      go_wp2_with fail
      refine (refParse_any s _ hs).mono ?_
      rintro e w3 ⟨rfl, b3⟩
      rw [HP.out]
      replace b3 := below5 b2 b3
      go_wp2_with fail
      refine (split_none s HS.out _ hs).mono ?_
      rintro e w4 ⟨rfl, b4⟩
      replace b4 := below5 b3 b4
      go_wp2_with fail
      refine (refSplit_none s HS.out _ hs).mono ?_
      rintro e w5 ⟨rfl, b5⟩
      replace b5 := below5 b4 b5
      go_wp2_with fail
      go_loop [11] (fun i => i = .int .i64 0) (fun i => 0)
      case atStart => rfl
      case round =>
        subst hrel
        go_wp2_with fail
        go_ret
        exact ⟨rfl, b5⟩
    · have h0 := Lb.split_pos hsp
      have HS := Lib.hid hsp
      clear hsp
      go_enter Try.func4, Try.ntmps4
      go_wp2_with fail
      refine (known_any _).mono ?_
      rintro e w1 ⟨rfl, b1⟩
      go_wp2_with fail
      refine (parse_at s _ _ HP.out _ hs).mono ?_
      rintro e w2 ⟨rfl, b2⟩
      replace b2 := below5 b1 b2
      go_wp2_with fail
      refine (refParse_any s _ hs).mono ?_
      rintro e w3 ⟨rfl, b3⟩
      rw [HP.out]
      replace b3 := below5 b2 b3
      go_wp2_with fail
      refine (split_at s _ HS.out h0 _ hs).mono ?_
      rintro e w4 ⟨g, off, cap, rfl, ⟨c1, c2, c3, c4⟩, b4⟩
      replace b4 := below5 b3 b4
      go_wp2_with fail
      refine (refSplit_at s _ HS.out h0 _ hs).mono ?_
      rintro e w5 ⟨g', off', cap', rfl, ⟨d1, d2, d3, d4⟩, b5⟩
      have c4' : ∀ j (h : j < parts.length), w5.cell? ⟨g, off + j, none⟩ = some (S parts[j]) := fun j h => (b5.cell (p := ⟨g, off + j, none⟩) c3).trans (c4 j h)
      have C4 := Lib.hid c4'
      have D4 := Lib.hid d4
      replace b5 := below5 b4 b5
      clear c4 c4' d4
      unfold maxLen at c2 d2
      have hpl : (parts.length : Int) ≤ 9223372036854775807 := by omega
      clear c1 c2 d1 d2
      go_wp2_with fail
      have e0 : ∀ wr : World, wr.heap = w5.heap → ∀ p, wr.cell? p = w5.cell? p := fun wr h p => by unfold World.cell?; rw [h]
      have E0 := Lib.hid e0
      clear e0
      go_loopw [11] (fun i wr => ∃ k : Nat, k ≤ parts.length ∧ i = .int .i64 k ∧ wr.heap = w5.heap ∧ Below w.heap.size w wr) (fun i _ => parts.length - (intOf i).toNat)
      case atStart => exact ⟨0, by omega, rfl, rfl, b5⟩
      case round =>
        obtain ⟨k, hk, rfl, hh, hb⟩ := hrel
        by_cases hlt : k < parts.length
        · have e1 := (E0.out _ hh _).trans (C4.out k hlt)
          have e2 := (E0.out _ hh _).trans (D4.out k hlt)
          go_wp2_with fail
          go_quiet (fail)
          go_wp2_with fail
          exact ⟨⟨k + 1, by omega, by go_num, hh, below_drewN hb _⟩, by simp [intOf]; omega⟩
        · go_wp2_with fail
          go_ret
          exact ⟨rfl, hb⟩
end Go.Proofs.Yteghcnmmdcclcaa
