/- The walk of TokQuotes. -/
import Derived.Test.YticljagcigiejaaTkO
namespace Go.Proofs.Yticljagcigiejaa
open Go.RowKit Go.Shelf
set_option maxRecDepth 100000

namespace Tk
theorem quo_app : ∀ (s r : List UInt8), (∀ c ∈ s, c ≠ 34 ∧ c ≠ 92) → quo (s ++ 34 :: r) = some s
  | [], r, _ => quo_end r
  | c :: s, r, h => by
    have hc := h c (by simp)
    rw [List.cons_append, quo_plain _ hc.1 hc.2, quo_app s r (fun d hd => h d (by simp [hd]))]; rfl
theorem cr_snoc (l : List UInt8) (c : UInt8) (h : c ≠ 13) : cr (l ++ [c]) = l ++ [c] := by
  unfold cr; rw [if_neg]; simpa using h
theorem quotes_law (s : List UInt8) (h : ∀ c ∈ s, c ≠ 34 ∧ c ≠ 92 ∧ c ≠ 10) : entries (97 :: 34 :: (s ++ [34, 98, 10])) = ([⟨1, false, [([97], false), (s, true), ([98], false)]⟩], 0, 0) := by
  have e0 : (97 :: 34 :: (s ++ [34, 98, 10])) = (97 :: 34 :: (s ++ [34, 98])) ++ 10 :: [] := by simp
  have e1 : (97 :: 34 :: (s ++ [34, 98]) : List UInt8) = (97 :: 34 :: (s ++ [34])) ++ [98] := by simp
  obtain ⟨h1, h2, h3⟩ := line_split (97 :: 34 :: (s ++ [34, 98])) [] (fun c hc => by
    simp only [List.mem_cons, List.mem_append, List.not_mem_nil, or_false] at hc
    rcases hc with rfl | rfl | hc | rfl | rfl
    · decide
    · decide
    · exact (h c hc).2.2
    · decide
    · decide)
  have hl : line1 ((97 :: 34 :: (s ++ [34, 98])) ++ 10 :: []) = 97 :: 34 :: (s ++ [34, 98]) := by
    unfold line1; rw [h1, if_pos rfl, h2, e1, cr_snoc _ _ (by decide)]
  have hb : st0.begin (97 :: 34 :: (s ++ [34, 98])) = st0 := rfl
  have hr : read (97 :: 34 :: (s ++ [34, 98])) st0 1 = .ok ⟨[], 1, false, [([97], false), (s, true), ([98], false)], []⟩ := by
    rw [read_bare _ _ (by decide), bare_plain _ (by decide) (by decide), bare_end _ (by decide)]
    show read (34 :: (s ++ [34, 98])) (st0.put ([97], false) 1) 1 = _
    rw [read_quo, quo_app s [98] (fun c hc => ⟨(h c hc).1, (h c hc).2.1⟩)]
    show read ((s ++ [34, 98]).drop (s.length + 1)) ((st0.put ([97], false) 1).put (s, true) 1) 1 = _
    rw [show (s ++ ([34, 98] : List UInt8)).drop (s.length + 1) = [98] by simp]
    rw [read_bare _ _ (by decide), bare_plain _ (by decide) (by decide)]
    rfl
  unfold entries
  rw [e0, ent_cons (by simp), hl, h3]
  unfold stepL
  rw [hb, hr]
  rfl
end Tk

set_option maxHeartbeats 2000000 in
theorem walkTokQuotes (s : List UInt8) (w : World) (hs : s.length ≤ maxLen) :
    Calls Try.prog 6 #[S s] w fun e w' => e = .returned (.bool true) ∧ Below w.heap.size w w' := by
  unfold maxLen at hs
  by_cases h200 : 200 < s.length
  · have h' : 200 < (s.length : Int) := by omega
    go_enter Try.func6, Try.ntmps6
    go_wp2_with fail
    refine (tknown_any _).mono ?_
    rintro e w1 ⟨rfl, b1⟩
    go_wp2_with fail
    go_ret
    exact ⟨rfl, b1⟩
  have h' : (s.length : Int) ≤ 200 := by omega
  clear h200 hs
  go_enter Try.func6, Try.ntmps6
  go_wp2_with fail
  refine (tknown_any _).mono ?_
  rintro e w1 ⟨rfl, b1⟩
  go_wp2_with fail
  go_loopw [3] (fun iv wr => ∃ i : Nat, i ≤ s.length ∧ Hid (∀ c ∈ s.take i, c ≠ 34 ∧ c ≠ 92 ∧ c ≠ 10) ∧ iv = .int .i64 i ∧ w1 = wr) (fun iv _ => s.length - (intOf iv).toNat)
  case atStart => exact ⟨0, Nat.zero_le _, Lib.hid (fun c h => by simp at h), rfl, rfl⟩
  case round =>
    obtain ⟨i, hi, hok, rfl, rfl⟩ := hrel
    by_cases hlt : i < s.length
    · have hlt' : (i : Int) < s.length := by omega
      by_cases h34 : s[i] = 34
      · obtain ⟨e1, e2⟩ := tk_beq (n := 34) rfl h34
        clear h34
        go_wp2_with fail
        go_ret
        exact ⟨rfl, b1⟩
      obtain ⟨e1, e2⟩ := tk_bne (n := 34) (b := 34) rfl h34
      by_cases h92 : s[i] = 92
      · obtain ⟨e3, e4⟩ := tk_beq (n := 92) rfl h92
        clear h34 h92
        go_wp2_with fail
        go_ret
        exact ⟨rfl, b1⟩
      obtain ⟨e3, e4⟩ := tk_bne (n := 92) (b := 92) rfl h92
      by_cases h10 : s[i] = 10
      · obtain ⟨e5, e6⟩ := tk_beq (n := 10) rfl h10
        clear h34 h92 h10
        go_wp2_with fail
        go_ret
        exact ⟨rfl, b1⟩
      obtain ⟨e5, e6⟩ := tk_bne (n := 10) (b := 10) rfl h10
      have HN := Lib.hid (show ∀ c ∈ s.take (i + 1), c ≠ 34 ∧ c ≠ 92 ∧ c ≠ 10 from fun c hc => by
        rw [List.take_succ_eq_append_getElem hlt] at hc
        rcases List.mem_append.1 hc with h | h
        · exact hok.out c h
        · rw [List.mem_singleton.1 h]; exact ⟨h34, h92, h10⟩)
      clear h34 h92 h10
      go_wp2_with fail
      exact ⟨⟨i + 1, by omega, HN, by go_num, trivial⟩, by simp [intOf]; omega⟩
    · have hge : (s.length : Int) ≤ i := by omega
      have hall : ∀ c ∈ s, c ≠ 34 ∧ c ≠ 92 ∧ c ≠ 10 := fun c hc => hok.out c (by rw [List.take_of_length_le (by omega)]; exact hc)
      have HQ := Lib.hid (Tk.quotes_law s hall)
      clear hlt hall
      go_wp2_with fail
      have hval : (ByteArray.mk #[97, 34] ++ ByteArray.mk s.toArray ++ ByteArray.mk #[34, 98, 10]) = ⟨(97 :: 34 :: (s ++ [34, 98, 10])).toArray⟩ := by
        have a1 : ByteArray.mk #[97, 34] ++ ByteArray.mk s.toArray = ⟨([97, 34] ++ s).toArray⟩ := append_S [97, 34] s
        have a2 : ByteArray.mk ([97, 34] ++ s).toArray ++ ByteArray.mk #[34, 98, 10] = ⟨(([97, 34] ++ s) ++ [34, 98, 10]).toArray⟩ := append_S ([97, 34] ++ s) [34, 98, 10]
        rw [a1, a2]; simp
      rw [hval]
      refine (tEntries_any (97 :: 34 :: (s ++ [34, 98, 10])) _ (by simp; omega)).mono ?_
      intro e w2 h2
      obtain ⟨v2, rfl, hr2, b2⟩ := EntP.out HQ.out h2
      replace b2 : Below w.heap.size w w2 := b1.trans (b2.mono b1.size)
      obtain ⟨o, cap, rfl, n1, n2, hel⟩ := hr2.elems
      obtain ⟨g, u, rfl, c0, c1, c2, hw1⟩ := hel 0 (by simp)
      obtain ⟨oa, ca, rfl, m1, m2, hea⟩ := hw1.elems
      obtain ⟨ga, rfl, d0, d1⟩ := hea 0 (by simp)
      obtain ⟨ga', hga, d2, d3⟩ := hea 1 (by simp)
      cases hga
      obtain ⟨ga', hga, d4, d5⟩ := hea 2 (by simp)
      cases hga
      clear hea hel hw1 hr2 h2 hval
      simp at n1 c0 c1 c2 d0 d1 d2 d3 d4 d5 m1
      simp only [List.length_cons, List.length_nil, Nat.zero_add, Nat.reduceAdd]
      go_wp2_with fail
      go_ret
      exact ⟨rfl, b2⟩
end Go.Proofs.Yticljagcigiejaa
