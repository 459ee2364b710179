/- The walk of LabelSafe. -/
import Derived.Test.YteghcnmmdcclcaaLawA
import Derived.Deep.QuietTactic
import Derived.BigQuiet
namespace Go.Proofs.Yteghcnmmdcclcaa
open Go.RowKit Go.Shelf

/-- where the words of a label stand behind k of its octets -/
def Lb.SafeA (t : List UInt8) (p q : Nat) : Prop := q = p + 4 ∧ ∃ h : p + 1 < t.length, t[p] = 92 ∧ 48 ≤ t[p + 1].toNat ∧ t[p + 1].toNat ≤ 57
def Lb.SafeB (t : List UInt8) (p q : Nat) : Prop := q = p + 2 ∧ ∃ h : p + 1 < t.length, t[p] = 92 ∧ ¬ (48 ≤ t[p + 1].toNat ∧ t[p + 1].toNat ≤ 57)
def Lb.SafeC (t : List UInt8) (p q : Nat) : Prop := q = p + 1 ∧ ∃ h : p < t.length, 33 ≤ t[p].toNat ∧ t[p].toNat ≤ 126 ∧ t[p] ∉ Lb.marks
theorem Lb.at0 (a r : List UInt8) (x : UInt8) : ∃ h : a.length < (a ++ x :: r).length, (a ++ x :: r)[a.length] = x := ⟨by simp, by simp⟩
theorem Lb.at1 (a r : List UInt8) (x y : UInt8) : ∃ h : a.length + 1 < (a ++ x :: y :: r).length, (a ++ x :: y :: r)[a.length + 1] = y := ⟨by simp, by simp⟩
theorem Lb.mark_not (c : UInt8) (h : c ∈ marks) : ¬ (48 ≤ c.toNat ∧ c.toNat ≤ 57) := by
  simp only [marks, List.mem_cons, List.not_mem_nil, or_false] at h
  rcases h with rfl | rfl | rfl | rfl | rfl | rfl | rfl | rfl <;> decide
theorem Lb.dig1 (c : UInt8) : 48 ≤ (48 + c / 100).toNat ∧ (48 + c / 100).toNat ≤ 57 := by
  have h : ∀ n : Fin 256, 48 ≤ (48 + UInt8.ofFin n / 100).toNat ∧ (48 + UInt8.ofFin n / 100).toNat ≤ 57 := by decide +kernel
  exact h c.toFin
theorem Lb.safe_step (l : List UInt8) (k : Nat) (hk : k < l.length) :
    Lb.SafeA (Lb.text l) (Lb.text (l.take k)).length (Lb.text (l.take (k + 1))).length ∨ Lb.SafeB (Lb.text l) (Lb.text (l.take k)).length (Lb.text (l.take (k + 1))).length ∨ Lb.SafeC (Lb.text l) (Lb.text (l.take k)).length (Lb.text (l.take (k + 1))).length := by
  have h1 := Lb.text_take_succ l k hk
  have h2 : Lb.text l = Lb.text (l.take k) ++ Lb.textC l[k] ++ Lb.text (l.drop (k + 1)) := by
    rw [← h1]; unfold Lb.text; rw [← List.flatMap_append, List.take_append_drop]
  rw [h1, h2]
  unfold Lb.textC
  split
  · left
    refine ⟨by simp [esc], ?_⟩
    simp only [esc, List.append_assoc, List.cons_append, List.nil_append]
    obtain ⟨g1, g2⟩ := at1 (Lb.text (l.take k)) ((48 + l[k] / 10 % 10) :: (48 + l[k] % 10) :: Lb.text (l.drop (k + 1))) 92 (48 + l[k] / 100)
    obtain ⟨f1, f2⟩ := at0 (Lb.text (l.take k)) ((48 + l[k] / 100) :: (48 + l[k] / 10 % 10) :: (48 + l[k] % 10) :: Lb.text (l.drop (k + 1))) 92
    exact ⟨g1, f2, by rw [g2]; exact (dig1 _).1, by rw [g2]; exact (dig1 _).2⟩
  · right
    rename_i hn
    split
    · left
      rename_i hm
      refine ⟨by simp, ?_⟩
      simp only [List.append_assoc, List.cons_append, List.nil_append]
      obtain ⟨g1, g2⟩ := at1 (Lb.text (l.take k)) (Lb.text (l.drop (k + 1))) 92 l[k]
      obtain ⟨f1, f2⟩ := at0 (Lb.text (l.take k)) (l[k] :: Lb.text (l.drop (k + 1))) 92
      exact ⟨g1, f2, by rw [g2]; exact mark_not _ hm⟩
    · right
      rename_i hm
      refine ⟨by simp, ?_⟩
      simp only [List.append_assoc, List.cons_append, List.nil_append]
      obtain ⟨f1, f2⟩ := at0 (Lb.text (l.take k)) (Lb.text (l.drop (k + 1))) l[k]
      exact ⟨f1, by rw [f2]; omega, by rw [f2]; omega, by rw [f2]; exact hm⟩
def Lb.SafeAt (l : List UInt8) (k p : Nat) : Prop := k ≤ l.length ∧ p = (Lb.text (l.take k)).length
theorem Lb.SafeAt.step {l k p} (h : Lb.SafeAt l k p) (hk : k < l.length) : ∃ q, Lb.SafeAt l (k + 1) q ∧ (Lb.SafeA (Lb.text l) p q ∨ Lb.SafeB (Lb.text l) p q ∨ Lb.SafeC (Lb.text l) p q) := by
  obtain ⟨_, rfl⟩ := h
  exact ⟨_, ⟨hk, rfl⟩, Lb.safe_step l k hk⟩
theorem Lb.SafeAt.done {l k p} (h : Lb.SafeAt l k p) (hk : ¬ k < l.length) : k = l.length ∧ p = (Lb.text l).length := by
  obtain ⟨h1, rfl⟩ := h
  obtain rfl : k = l.length := by omega
  exact ⟨rfl, by rw [List.take_length]⟩
theorem Lb.SafeAt.le {l k p} (h : Lb.SafeAt l k p) : p ≤ 4 * k := by
  obtain ⟨h1, rfl⟩ := h
  have := Lb.text_len (l.take k)
  simp at this; omega

set_option maxRecDepth 100000 in
set_option maxHeartbeats 1000000 in
theorem walkLabelSafe (l : List UInt8) (w : World) (hl : l.length ≤ maxLen) :
    Calls Try.prog 7 #[S l] w fun e w' => e = .returned (.bool true) ∧ Below w.heap.size w w' := by
  unfold maxLen at hl
  by_cases h100 : 100 < l.length
  · go_enter Try.func7, Try.ntmps7
    go_wp2_with (go_at_call 8; refine (known_any _).mono ?_; rintro e w1 ⟨rfl, b1⟩)
    go_ret
    exact ⟨rfl, b1⟩
  · have hs : l.length ≤ 1000000 := by omega
    have ht := Lb.text_len l
    have hs0 := Lib.hid (show ∀ k p, Lb.SafeAt l k p → k < l.length → _ from fun k p h hk => h.step hk)
    have hs1 := Lib.hid (show ∀ k p, Lb.SafeAt l k p → ¬ k < l.length → _ from fun k p h hk => h.done hk)
    have hs2 : Lb.SafeAt l 0 0 := ⟨by omega, rfl⟩
    obtain ⟨t, htx⟩ : ∃ t, Lb.text l = t := ⟨_, rfl⟩
    rw [htx] at ht hs0 hs1
    have HT := Lib.hid htx
    clear htx
    have ht4 : (t.length : Int) ≤ 400 := by omega
    have hl1 : (l.length : Int) ≤ 100 := by omega
    clear h100
    go_enter Try.func7, Try.ntmps7
    go_wp2_with fail
    refine (known_any _).mono ?_
    rintro e w1 ⟨rfl, b1⟩
    go_wp2_with fail
    refine (text_any l _ hs).mono ?_
    rintro e w3 ⟨rfl, b3⟩
    rw [HT.out]
    replace b3 := below5 b1 b3
    go_wp2_with fail
    go_loop [4, 5] (fun n i => ∃ k p : Nat, Lb.SafeAt l k p ∧ n = .int .i64 k ∧ i = .int .i64 p) (fun n _ => l.length - (intOf n).toNat)
    case atStart => exact ⟨0, 0, hs2, rfl, rfl⟩
    case round =>
      obtain ⟨k, p, hrel, rfl, rfl⟩ := hrel
      have hp4 := hrel.le
      have hk0 := hrel.1
      by_cases hk : k < l.length
      · obtain ⟨q, hq, (⟨rfl, h1, h2, h3, h4⟩ | ⟨rfl, h1, h2, h3⟩ | ⟨rfl, h1, h2, h3, h4⟩)⟩ := hs0.out _ _ hrel hk
        · have HQ := Lib.hid hq
          clear hq hrel
          have e0 : (t[p].toNat : Int) = 92 := by rw [h2]; rfl
          have e1 : (48 : Int) ≤ t[p + 1].toNat := by omega
          have e2 : (t[p + 1].toNat : Int) ≤ 57 := by omega
          have hp1 : (p : Int) + 1 < t.length := by omega
          clear h2 h3 h4
          go_wp2_with fail
          exact ⟨⟨k + 1, p + 4, HQ.out, by go_num, by go_num⟩, by simp [intOf]; omega⟩
        · have HQ := Lib.hid hq
          clear hq hrel
          have e0 : (t[p].toNat : Int) = 92 := by rw [h2]; rfl
          have hp1 : (p : Int) + 1 < t.length := by omega
          clear h2
          by_cases h4 : 48 ≤ t[p + 1].toNat
          · have e1 : (48 : Int) ≤ t[p + 1].toNat := by omega
            have e2 : 57 < (t[p + 1].toNat : Int) := by omega
            clear h3 h4
            go_wp2_with fail
            exact ⟨⟨k + 1, p + 2, HQ.out, by go_num, by go_num⟩, by simp [intOf]; omega⟩
          · have e1 : (t[p + 1].toNat : Int) < 48 := by omega
            clear h3 h4
            go_wp2_with fail
            exact ⟨⟨k + 1, p + 2, HQ.out, by go_num, by go_num⟩, by simp [intOf]; omega⟩
        · have HQ := Lib.hid hq
          clear hq hrel
          simp only [Lb.marks, List.mem_cons, List.not_mem_nil, or_false, not_or] at h4
          obtain ⟨m1, m2, m3, m4, m5, m6, m7, m8⟩ := h4
          obtain ⟨m1, _⟩ := bne_u8 (n := 46) (b := 46) rfl m1
          obtain ⟨m2, _⟩ := bne_u8 (n := 92) (b := 92) rfl m2
          obtain ⟨m3, _⟩ := bne_u8 (n := 34) (b := 34) rfl m3
          obtain ⟨m4, _⟩ := bne_u8 (n := 40) (b := 40) rfl m4
          obtain ⟨m5, _⟩ := bne_u8 (n := 41) (b := 41) rfl m5
          obtain ⟨m6, _⟩ := bne_u8 (n := 59) (b := 59) rfl m6
          obtain ⟨m7, _⟩ := bne_u8 (n := 64) (b := 64) rfl m7
          obtain ⟨m8, _⟩ := bne_u8 (n := 36) (b := 36) rfl m8
          have e1 : (33 : Int) ≤ t[p].toNat := by omega
          have e2 : (t[p].toNat : Int) ≤ 126 := by omega
          clear h2 h3
          go_wp2_with fail
          exact ⟨⟨k + 1, p + 1, HQ.out, by go_num, by go_num⟩, by simp [intOf]; omega⟩
      · obtain ⟨rfl, rfl⟩ := hs1.out _ _ hrel hk
        clear hk hrel
        go_wp2_with fail
        go_ret
        exact ⟨rfl, b3⟩
end Go.Proofs.Yteghcnmmdcclcaa
