/- A text's labels. -/
import Derived.Test.YtikibmeopndncaaNmJ
namespace Go.Proofs.Ytikibmeopndncaa
open Go.RowKit Go.Shelf
set_option maxRecDepth 100000

theorem Lb.splitF_one : ∀ (m : Nat) (s cur x : List UInt8), s.length ≤ m → Lb.splitF cur s = some [x] → x = cur ++ s
  | _, [], cur, x, _, h => by simp only [Lb.splitF, Option.some.injEq, List.cons.injEq, and_true] at h; simp [h]
  | 0, c :: r, cur, x, hm, _ => by simp at hm
  | m + 1, c :: r, cur, x, hm, h => by
    simp only [List.length_cons] at hm
    unfold Lb.splitF at h
    split at h
    · obtain ⟨y, hy, he⟩ := Option.map_eq_some_iff.1 h
      have := Lb.splitF_pos r.length [] r y (Nat.le_refl _) hy
      cases he
      simp at this
    · split at h
      · rename_i h92
        match r, hm, h with
        | [], _, h => cases h
        | d :: r, hm, h =>
          have := Lb.splitF_one m r _ x (by simp at hm; omega) h
          rw [this, h92]; simp
      · have := Lb.splitF_one m r _ x (by omega) h
        rw [this]; simp
theorem Lb.split_one {s : List UInt8} (h : Lb.split s = some [[]]) : s = [] := by
  have := Lb.splitF_one s.length s [] [] (Nat.le_refl _) h
  simpa using this.symm
theorem Lb.parse_len {p : List UInt8} (h : (Lb.parse p).2 = 0) : (Lb.parse p).1.length ≤ 63 := by
  unfold Lb.parse at h ⊢
  split
  · rename_i hu
    rw [if_pos hu] at h
    split
    · rename_i hc
      unfold Lb.check at hc
      split at hc
      · cases hc
      · split at hc
        · cases hc
        · simpa using (by omega)
    · simp
  · simp

structure Nm.PtAt (l acc : List (List UInt8)) (k : Nat) : Prop where
  le : k ≤ l.length
  len : acc.length = k
  short : ∀ x ∈ acc, x.length ≤ 63
  eq : Nm.partsF l = (Nm.partsF (l.drop k)).map (fun x => (acc ++ x.1, x.2))
theorem Nm.PtAt.start (l : List (List UInt8)) : Nm.PtAt l [] 0 := by
  refine ⟨by omega, rfl, fun x h => (by cases h), ?_⟩
  rw [List.drop_zero]
  cases Nm.partsF l with
  | error e => rfl
  | ok x => rfl
theorem Nm.PtAt.go {l acc k} (h : Nm.PtAt l acc k) (hk : k < l.length) (hl : ¬ (l[k] = [] ∧ k + 1 = l.length)) (hz : (Lb.parse l[k]).2 = 0) : Nm.PtAt l (acc ++ [(Lb.parse l[k]).1]) (k + 1) := by
  refine ⟨hk, by simp [h.len], fun x hx => ?_, ?_⟩
  · rcases List.mem_append.1 hx with hx | hx
    · exact h.short x hx
    · rw [List.mem_singleton.1 hx]; exact Lb.parse_len hz
  · rw [h.eq, List.drop_eq_getElem_cons hk, Nm.partsF, if_neg, if_pos hz]
    · cases Nm.partsF (l.drop (k + 1)) with
      | error e => rfl
      | ok x => simp [Except.map]
    · rintro ⟨h1, h2⟩
      exact hl ⟨h1, by have := List.length_drop (i := k + 1) (l := l); rw [h2] at this; simp at this; omega⟩
theorem Nm.PtAt.bad {l acc k} (h : Nm.PtAt l acc k) (hk : k < l.length) (hl : ¬ (l[k] = [] ∧ k + 1 = l.length)) (hz : (Lb.parse l[k]).2 ≠ 0) : Nm.partsF l = .error (Lb.parse l[k]).2 := by
  rw [h.eq, List.drop_eq_getElem_cons hk, Nm.partsF, if_neg, if_neg hz]
  · rfl
  · rintro ⟨h1, h2⟩
    exact hl ⟨h1, by have := List.length_drop (i := k + 1) (l := l); rw [h2] at this; simp at this; omega⟩
theorem Nm.PtAt.whole {l acc k} (h : Nm.PtAt l acc k) (hk : k < l.length) (hl : l[k] = [] ∧ k + 1 = l.length) : Nm.partsF l = .ok (acc, true) := by
  rw [h.eq, List.drop_eq_getElem_cons hk, Nm.partsF, if_pos ⟨hl.1, List.drop_of_length_le (by omega)⟩]
  simp [Except.map]
theorem Nm.PtAt.done {l acc k} (h : Nm.PtAt l acc k) (hk : ¬ k < l.length) : Nm.partsF l = .ok (acc, false) := by
  rw [h.eq, List.drop_of_length_le (by omega), Nm.partsF]
  simp [Except.map]

def PartsP (r : Except Int (List (List UInt8) × Bool)) (w : World) (e : Ending) (w' : World) : Prop := Below w.heap.size w w' ∧ match r with
  | .error z => z ≠ 0 ∧ e = .returned (.tuple #[.slice none 0 0, .bool false, .int .i64 z])
  | .ok (n, b) => n.length ≤ 800 ∧ (∀ x ∈ n, x.length ≤ 63) ∧ ∃ v, e = .returned (.tuple #[v, .bool b, .int .i64 0]) ∧ Row (Own w) 9 1 v n.length (n.map S) w'

set_option maxHeartbeats 2000000 in
theorem parts_any (s : List UInt8) (w : World) (hs : s.length ≤ 1000000) (h0 : s ≠ []) (hl : ∀ l, Lb.split s = some l → l.length ≤ 800 ∧ ∀ x ∈ l, x.length ≤ 1000000) :
    Calls Try.prog 63 #[S s] w (PartsP (Nm.parts s) w) := by
  rcases hsp : Lb.split s with _ | l
  · have HP := Lib.hid (show Nm.parts s = .error 2 by unfold Nm.parts; rw [hsp])
    have HS := Lib.hid hsp
    clear hsp hl
    go_enter Try.func63, Try.ntmps63
    go_wp2_with fail
    refine (split_none s HS.out _ hs).mono ?_
    rintro e w1 ⟨rfl, b1⟩
    go_wp2_with fail
    go_ret3
    refine ⟨b1, ?_⟩
    rw [HP.out]
    exact ⟨by decide, rfl⟩
  · have HP := Lib.hid (show Nm.parts s = Nm.partsF l by unfold Nm.parts; rw [hsp])
    have hpos := Lb.split_pos hsp
    obtain ⟨hl1, hl2⟩ := hl l hsp
    have HX := Lib.hid hl2
    have HONE := Lib.hid (show ¬ (l[0]'hpos = [] ∧ 0 + 1 = l.length) from fun ⟨h1, h2⟩ => h0 (Lb.split_one (by
      rw [hsp]; match l, hpos, h1, h2 with
      | [x], _, h1, _ => simp at h1; rw [h1])))
    have HS := Lib.hid hsp
    have l800 : (l.length : Int) ≤ 800 := by omega
    clear hsp hl hl2 h0
    refine (callsIn_wide (n := 0)).1 ?_
    refine callsIn_of_wp Try.func63 rfl trivial ?_ rfl
    simp only [Try.ntmps63, List.size_toArray, List.length_cons, List.length_nil, Nat.reduceAdd, Nat.reduceSub, Array.replicate_succ, Array.replicate_zero, List.push_toArray, List.append_toArray, List.nil_append, List.cons_append]
    gi_wp2_with fail
    refine (callsIn_wide.2 (split_at s l HS.out hpos _ hs)).mono ?_
    rintro e w1 ⟨g, off, cap, rfl, ⟨c1, c2, c3, c4⟩, b1⟩
    have HC := Lib.hid (show ∀ wr, Below w1.heap.size w1 wr → ∀ j (h : j < l.length), wr.cell? ⟨g, off + j, none⟩ = some (S l[j]) from fun wr hb j h => (hb.cell (p := ⟨g, off + j, none⟩) c3).trans (c4 j h))
    clear c4
    unfold maxLen at c2
    gi_wp2_with fail
    gi_loopw [7, 23] (fun v i wr => ∃ (k : Nat) (acc : List (List UInt8)), Nm.PtAt l acc k ∧ i = .int .i64 k ∧ Row (Own w1) 9 1 v k (acc.map S) wr ∧ Below w1.heap.size w1 wr) (fun _ i _ => l.length - (intOf i).toNat)
    case atStart => exact ⟨0, [], Nm.PtAt.start l, rfl, row_empty w1, (Below.refl _ _).alloc (Nat.le_refl _) _⟩
    case round =>
      obtain ⟨k, acc, hpt, rfl, hrow, hb⟩ := hrel
      have hkl := hpt.le
      have hal := hpt.len
      by_cases hlt : k < l.length
      · have e1 := HC.out _ hb k hlt
        have hx := HX.out _ (List.getElem_mem hlt)
        by_cases hw : l[k] = [] ∧ k + 1 = l.length
        · have HW := Lib.hid (hpt.whole hlt hw)
          have hk0 : 0 < k := by
            rcases Nat.eq_zero_or_pos k with h | h
            · subst h; exact absurd hw HONE.out
            · exact h
          have hk0' : 0 < (k : Int) := by omega
          have hb1 : (l[k] == []) = true := by simp [hw.1]
          have hb2 : ((k : Int) == (l.length : Int) - 1) = true := by rw [beq_iff_eq]; omega
          have HSH := Lib.hid hpt.short
          clear hw hpt
          gi_wp2_with fail
          go_ret3
          refine ⟨b1.trans (hb.mono b1.size), ?_⟩
          rw [HP.out, HW.out]
          exact ⟨by omega, HSH.out, _, rfl, by rw [hal]; exact hrow.mono (fun g hg => Nat.le_trans b1.size hg)⟩
        · have hw' : (l[k] == []) = false ∨ (l[k] == []) = true ∧ ((k : Int) == (l.length : Int) - 1) = false ∧ 0 < (k : Int) ∨ (l[k] == []) = true ∧ ((k : Int) == (l.length : Int) - 1) = false ∧ (k : Int) ≤ 0 := by
            by_cases h : l[k] = []
            · have h2 : ¬ k + 1 = l.length := fun h2 => hw ⟨h, h2⟩
              have h3 : (l[k] == []) = true := by simp [h]
              have h4 : ((k : Int) == (l.length : Int) - 1) = false := by rw [beq_eq_false_iff_ne]; omega
              right
              rcases Nat.eq_zero_or_pos k with h5 | h5
              · right; exact ⟨h3, h4, by omega⟩
              · left; exact ⟨h3, h4, by omega⟩
            · left; simpa using h
          obtain ⟨⟨x, z⟩, hp⟩ : ∃ p, Lb.parse l[k] = p := ⟨_, rfl⟩
          by_cases hz : z = 0
          · subst hz
            have hgo := hpt.go hlt hw (by rw [hp])
            rw [hp] at hgo
            have HG := Lib.hid hgo
            have HPA := Lib.hid hp
            clear hpt hw hgo hp
            rcases hw' with hb1 | ⟨hb1, hb2, hb3⟩ | ⟨hb1, hb2, hb3⟩
            all_goals
              gi_wp2_with (first
                | (gi_at_call 92; refine (callsIn_wide.2 (parse_at _ _ _ HPA.out _ hx)).mono ?_; rintro e w2 ⟨rfl, b2⟩; have hb4 := below5 hb b2)
                | (gi_at_builtin; refine append_rd (Own w1) rfl _ _ _ Try.underlying44 rfl _ k _ (by rfl) ((hrow.below b2).alloc _) _ [x] (by rfl) (rd_one _ _) (by simp; omega) (by have := hb4.size; simp; omega) ?_; intro v' w' hrow' hgr))
              exact ⟨⟨k + 1, acc ++ [x], HG.out, by go_num, hrow', (hb4.alloc hb4.size _).grown hgr (by have := hb4.size; simp; omega) (fun g hg => hrow.2 g hg)⟩, by simp [intOf]; omega⟩
          · have HB := Lib.hid (hpt.bad hlt hw (by rw [hp]; exact hz))
            have HPA := Lib.hid hp
            have HZ := Lib.hid hz
            have hz' : (z != 0) = true := by simpa using hz
            clear hpt hw hp hz
            rcases hw' with hb1 | ⟨hb1, hb2, hb3⟩ | ⟨hb1, hb2, hb3⟩
            all_goals
              gi_wp2_with (gi_at_call 92; refine (callsIn_wide.2 (parse_at _ _ _ HPA.out _ hx)).mono ?_; rintro e w2 ⟨rfl, b2⟩; have hb4 := below5 hb b2)
              go_ret3
              refine ⟨b1.trans (hb4.mono b1.size), ?_⟩
              rw [HP.out, HB.out, HPA.out]
              exact ⟨HZ.out, rfl⟩
      · have HD := Lib.hid (hpt.done hlt)
        have HSH := Lib.hid hpt.short
        clear hpt
        obtain rfl : k = l.length := by omega
        gi_wp2_with fail
        go_ret3
        refine ⟨b1.trans (hb.mono b1.size), ?_⟩
        rw [HP.out, HD.out]
        exact ⟨by omega, HSH.out, _, rfl, by rw [hal]; exact hrow.mono (fun g hg => Nat.le_trans b1.size hg)⟩
end Go.Proofs.Ytikibmeopndncaa
