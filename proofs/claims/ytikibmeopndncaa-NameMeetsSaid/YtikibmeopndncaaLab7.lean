/- The law's own 'known'. -/
import Derived.Test.YtikibmeopndncaaLabH
import Derived.Test.YtikibmeopndncaaLabSpec3
namespace Go.Proofs.Ytikibmeopndncaa
open Go.RowKit Go.Shelf
set_option maxRecDepth 100000

theorem parse_at (s l : List UInt8) (z : Int) (h : Lb.parse s = (l, z)) (w : World) (hs : s.length ≤ 1000000) :
    Calls Try.prog 92 #[S s] w fun e w' => e = .returned (.tuple #[S l, .int .i64 z]) ∧ Below w.heap.size w w' := by
  have := parse_any s w hs; rw [h] at this; exact this
theorem split_at (s : List UInt8) (l : List (List UInt8)) (h : Lb.split s = some l) (h0 : 0 < l.length) (w : World) (hs : s.length ≤ 1000000) :
    Calls Try.prog 91 #[S s] w fun e w' => ∃ g off cap, e = .returned (.tuple #[.slice (some ⟨g, off, none⟩) l.length cap, .int .i64 0]) ∧ (l.length ≤ cap ∧ cap ≤ maxLen ∧ g < w'.heap.size ∧ ∀ j (h : j < l.length), w'.cell? ⟨g, off + j, none⟩ = some (S l[j])) ∧ Below w.heap.size w w' := by
  refine (split_any s w hs).mono ?_
  rintro e w' ⟨v, z, rfl, hr, hb⟩
  unfold SplitR at hr
  rw [h] at hr
  obtain ⟨rfl, (⟨_, rfl⟩ | ⟨g, off, cap, rfl, hr⟩)⟩ := hr
  · simp at h0
  · exact ⟨g, off, cap, rfl, hr, hb⟩

theorem fold_fold (l : List UInt8) : Lb.fold (Lb.fold l) = Lb.fold l := by
  have h : ∀ c, Lb.low (Lb.low c) = Lb.low c := by
    have h : ∀ n : Fin 256, Lb.low (Lb.low (UInt8.ofFin n)) = Lb.low (UInt8.ofFin n) := by decide +kernel
    intro c; exact h c.toFin
  simp [Lb.fold, h]
theorem cmpL_fold (a b : List UInt8) : cmpL (Lb.fold a) b = cmpL a b := by unfold cmpL; rw [fold_fold]
theorem fold_length (l : List UInt8) : (Lb.fold l).length = l.length := by simp [Lb.fold]
theorem below5 {w w1 w2 : World} (h : Below w.heap.size w w1) (k : Below w1.heap.size w1 w2) : Below w.heap.size w w2 := h.trans (k.mono h.size)
theorem Lb.splitF_pos : ∀ (n : Nat) (cur s : List UInt8) (l : List (List UInt8)), s.length ≤ n → Lb.splitF cur s = some l → 0 < l.length
  | _, cur, [], l, _, h => by simp only [Lb.splitF, Option.some.injEq] at h; subst h; simp
  | 0, cur, c :: r, l, hn, h => by simp at hn
  | n + 1, cur, c :: r, l, hn, h => by
    simp only [List.length_cons] at hn
    unfold Lb.splitF at h
    split at h
    · obtain ⟨x, hx, rfl⟩ := Option.map_eq_some_iff.1 h
      simp
    · split at h
      · match r, hn, h with
        | [], _, h => cases h
        | d :: r, hn, h => exact Lb.splitF_pos n _ r l (by simp at hn; omega) h
      · exact Lb.splitF_pos n _ r l (by omega) h
theorem Lb.split_pos {s l} (h : Lb.split s = some l) : 0 < l.length := Lb.splitF_pos s.length [] s l (Nat.le_refl _) h

theorem split_none (s : List UInt8) (h : Lb.split s = none) (w : World) (hs : s.length ≤ 1000000) :
    Calls Try.prog 91 #[S s] w fun e w' => e = .returned (.tuple #[.slice none 0 0, .int .i64 2]) ∧ Below w.heap.size w w' := by
  refine (split_any s w hs).mono ?_
  rintro e w' ⟨v, z, rfl, hr, hb⟩
  unfold SplitR at hr; rw [h] at hr
  obtain ⟨rfl, rfl⟩ := hr
  exact ⟨rfl, hb⟩
theorem refSplit_none (s : List UInt8) (h : Lb.split s = none) (w : World) (hs : s.length ≤ 1000000) :
    Calls Try.prog 64 #[S s] w fun e w' => e = .returned (.tuple #[.slice none 0 0, .int .i64 2]) ∧ Below w.heap.size w w' := by
  refine (refSplit_any s w hs).mono ?_
  rintro e w' ⟨v, z, rfl, hr, hb⟩
  unfold SplitR at hr; rw [h] at hr
  obtain ⟨rfl, rfl⟩ := hr
  exact ⟨rfl, hb⟩
theorem refSplit_at (s : List UInt8) (l : List (List UInt8)) (h : Lb.split s = some l) (h0 : 0 < l.length) (w : World) (hs : s.length ≤ 1000000) :
    Calls Try.prog 64 #[S s] w fun e w' => ∃ g off cap, e = .returned (.tuple #[.slice (some ⟨g, off, none⟩) l.length cap, .int .i64 0]) ∧ (l.length ≤ cap ∧ cap ≤ maxLen ∧ g < w'.heap.size ∧ ∀ j (h : j < l.length), w'.cell? ⟨g, off + j, none⟩ = some (S l[j])) ∧ Below w.heap.size w w' := by
  refine (refSplit_any s w hs).mono ?_
  rintro e w' ⟨v, z, rfl, hr, hb⟩
  unfold SplitR at hr
  rw [h] at hr
  obtain ⟨rfl, (⟨_, rfl⟩ | ⟨g, off, cap, rfl, hr⟩)⟩ := hr
  · simp at h0
  · exact ⟨g, off, cap, rfl, hr, hb⟩

/-! ### words with dots between, parted again -/
theorem Lb.splitF_textC (cur r : List UInt8) (c : UInt8) : Lb.splitF cur (Lb.textC c ++ r) = Lb.splitF (cur ++ Lb.textC c) r := by
  unfold Lb.textC
  split
  · obtain ⟨_, h2, h3, _⟩ := esc_spec c
    have hd : ∀ x : UInt8, Lb.isDig x → x ≠ 46 ∧ x ≠ 92 := fun x h => ⟨fun e => by rw [e] at h; exact absurd h (by decide), fun e => by rw [e] at h; exact absurd h (by decide)⟩
    show Lb.splitF cur (92 :: (48 + c / 100) :: (48 + c / 10 % 10) :: (48 + c % 10) :: r) = _
    rw [Lb.splitF.eq_def]
    simp only [show (92 : UInt8) ≠ 46 by decide, if_false, if_true]
    rw [Lb.splitF.eq_def]
    simp only [(hd _ h2).1, (hd _ h2).2, if_false]
    rw [Lb.splitF.eq_def]
    simp only [(hd _ h3).1, (hd _ h3).2, if_false]
    simp [esc]
  · split
    · show Lb.splitF cur (92 :: c :: r) = _
      rw [Lb.splitF.eq_def]
      simp only [show (92 : UInt8) ≠ 46 by decide, if_false, if_true]
    · rename_i hm
      have h1 : c ≠ 46 := fun e => hm (by rw [e]; decide)
      have h2 : c ≠ 92 := fun e => hm (by rw [e]; decide)
      show Lb.splitF cur (c :: r) = _
      rw [Lb.splitF.eq_def]
      simp only [h1, h2, if_false]
theorem Lb.splitF_text (r : List UInt8) : ∀ (l cur : List UInt8), Lb.splitF cur (Lb.text l ++ r) = Lb.splitF (cur ++ Lb.text l) r
  | [], cur => by simp [Lb.text]
  | c :: l, cur => by
    show Lb.splitF cur (Lb.textC c ++ Lb.text l ++ r) = Lb.splitF (cur ++ (Lb.textC c ++ Lb.text l)) r
    rw [List.append_assoc, Lb.splitF_textC, Lb.splitF_text r l, List.append_assoc]
theorem Lb.splitF_dots : ∀ (r : List (List UInt8)) (cur : List UInt8), Lb.splitF cur (r.flatMap fun y => 46 :: Lb.text y) = some (cur :: r.map Lb.text)
  | [], cur => rfl
  | y :: r, cur => by
    show Lb.splitF cur (46 :: (Lb.text y ++ r.flatMap fun y => 46 :: Lb.text y)) = _
    rw [Lb.splitF.eq_def]
    simp only [if_true]
    rw [Lb.splitF_text, Lb.splitF_dots r]
    rfl
def Lb.jn : List (List UInt8) → List UInt8
  | [] => []
  | x :: r => Lb.text x ++ r.flatMap fun y => 46 :: Lb.text y
theorem Lb.split_jn (l : List (List UInt8)) (h : 0 < l.length) : Lb.split (Lb.jn l) = some (l.map Lb.text) := by
  match l, h with
  | x :: r, _ =>
    unfold Lb.split Lb.jn
    rw [Lb.splitF_text, Lb.splitF_dots]; rfl
theorem Lb.jn_succ (l : List (List UInt8)) (k : Nat) (h : k < l.length) : Lb.jn (l.take (k + 1)) = (if 0 < k then Lb.jn (l.take k) ++ [46] else Lb.jn (l.take k)) ++ Lb.text l[k] := by
  match l, k, h with
  | x :: r, 0, _ => simp [Lb.jn]
  | x :: r, k + 1, h =>
    simp only [List.length_cons] at h
    simp only [Nat.zero_lt_succ, if_true, List.take_succ_cons, Lb.jn, List.getElem_cons_succ]
    rw [List.take_succ_eq_append_getElem (by omega), List.flatMap_append]
    simp
theorem Lb.jn_len (l : List (List UInt8)) : ∀ (k : Nat) (h : k ≤ l.length) (hl : ∀ j (hj : j < k), (l[j]'(by omega)).length ≤ 63), (Lb.jn (l.take k)).length ≤ 253 * k
  | 0, _, _ => by simp [Lb.jn]
  | k + 1, h, hl => by
    rw [Lb.jn_succ l k h, List.length_append]
    have h1 := Lb.jn_len l k (by omega) (fun j hj => hl j (by omega))
    have h2 := Lb.text_len l[k]
    have h3 := hl k (by omega)
    split <;> (try rw [List.length_append]) <;> simp <;> omega

theorem cell_lt {W : World} {p : Addr} {v : Value} (h : W.cell? p = some v) : p.block < W.heap.size := by
  rcases Nat.lt_or_ge p.block W.heap.size with h' | h'
  · exact h'
  · simp [World.cell?, Array.getElem?_eq_none h'] at h
end Go.Proofs.Ytikibmeopndncaa
