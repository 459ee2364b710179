/- The walk of LabelSplit. -/
import Derived.Test.YteghcnmmdcclcaaLawA
import Derived.Deep.QuietTactic
import Derived.BigQuiet
import Derived.SliceStrings
namespace Go.Proofs.Yteghcnmmdcclcaa
open Go.RowKit Go.Shelf Go.ChangeShapes Go.WideShapes

/-! ### words with dots between, parted again -/
theorem Lb.splitF_textC (cur r : List UInt8) (c : UInt8) : Lb.splitF cur (Lb.textC c ++ r) = Lb.splitF (cur ++ Lb.textC c) r := by
  unfold Lb.textC
  split
  · obtain ⟨_, h2, h3, _⟩ := esc_spec c
    have hd : ∀ x : UInt8, Lb.isDig x → x ≠ 46 ∧ x ≠ 92 := fun x h => ⟨fun e => by rw [e] at h; exact absurd h (by decide), fun e => by rw [e] at h; exact absurd h (by decide)⟩
    show Lb.splitF cur (92 :: (48 + c / 100) :: (48 + c / 10 % 10) :: (48 + c % 10) :: r) = _
    rw [Lb.splitF.eq_def]
    simp only [show (92 : UInt8) ≠ 46 by decide, if_false, if_true]
    rw [Lb.splitF.eq_def]
    simp only [(hd _ h2).1, (hd _ h2).2, if_false]
    rw [Lb.splitF.eq_def]
    simp only [(hd _ h3).1, (hd _ h3).2, if_false]
    simp [esc]
  · split
    · show Lb.splitF cur (92 :: c :: r) = _
      rw [Lb.splitF.eq_def]
      simp only [show (92 : UInt8) ≠ 46 by decide, if_false, if_true]
    · rename_i hm
      have h1 : c ≠ 46 := fun e => hm (by rw [e]; decide)
      have h2 : c ≠ 92 := fun e => hm (by rw [e]; decide)
      show Lb.splitF cur (c :: r) = _
      rw [Lb.splitF.eq_def]
      simp only [h1, h2, if_false]
theorem Lb.splitF_text (r : List UInt8) : ∀ (l cur : List UInt8), Lb.splitF cur (Lb.text l ++ r) = Lb.splitF (cur ++ Lb.text l) r
  | [], cur => by simp [Lb.text]
  | c :: l, cur => by
    show Lb.splitF cur (Lb.textC c ++ Lb.text l ++ r) = Lb.splitF (cur ++ (Lb.textC c ++ Lb.text l)) r
    rw [List.append_assoc, Lb.splitF_textC, Lb.splitF_text r l, List.append_assoc]
theorem Lb.splitF_dots : ∀ (r : List (List UInt8)) (cur : List UInt8), Lb.splitF cur (r.flatMap fun y => 46 :: Lb.text y) = some (cur :: r.map Lb.text)
  | [], cur => rfl
  | y :: r, cur => by
    show Lb.splitF cur (46 :: (Lb.text y ++ r.flatMap fun y => 46 :: Lb.text y)) = _
    rw [Lb.splitF.eq_def]
    simp only [if_true]
    rw [Lb.splitF_text, Lb.splitF_dots r]
    rfl
def Lb.jn : List (List UInt8) → List UInt8
  | [] => []
  | x :: r => Lb.text x ++ r.flatMap fun y => 46 :: Lb.text y
theorem Lb.split_jn (l : List (List UInt8)) (h : 0 < l.length) : Lb.split (Lb.jn l) = some (l.map Lb.text) := by
  match l, h with
  | x :: r, _ =>
    unfold Lb.split Lb.jn
    rw [Lb.splitF_text, Lb.splitF_dots]; rfl
theorem Lb.jn_succ (l : List (List UInt8)) (k : Nat) (h : k < l.length) : Lb.jn (l.take (k + 1)) = (if 0 < k then Lb.jn (l.take k) ++ [46] else Lb.jn (l.take k)) ++ Lb.text l[k] := by
  match l, k, h with
  | x :: r, 0, _ => simp [Lb.jn]
  | x :: r, k + 1, h =>
    simp only [List.length_cons] at h
    simp only [Nat.zero_lt_succ, if_true, List.take_succ_cons, Lb.jn, List.getElem_cons_succ]
    rw [List.take_succ_eq_append_getElem (by omega), List.flatMap_append]
    simp
theorem Lb.jn_len (l : List (List UInt8)) : ∀ (k : Nat) (h : k ≤ l.length) (hl : ∀ j (hj : j < k), (l[j]'(by omega)).length ≤ 63), (Lb.jn (l.take k)).length ≤ 253 * k
  | 0, _, _ => by simp [Lb.jn]
  | k + 1, h, hl => by
    rw [Lb.jn_succ l k h, List.length_append]
    have h1 := Lb.jn_len l k (by omega) (fun j hj => hl j (by omega))
    have h2 := Lb.text_len l[k]
    have h3 := hl k (by omega)
    split <;> (try rw [List.length_append]) <;> simp <;> omega

/-! ### a list of texts among the arguments -/
/-- the value v reads as the list of texts l, wherever it lies -/
def ArgStrs (v : Value) (l : List (List UInt8)) (W : World) : Prop :=
  (v = .slice none 0 0 ∧ l = []) ∨ ∃ a cap, v = .slice (some a) l.length cap ∧ l.length ≤ cap ∧ cap ≤ maxLen ∧ (∀ j (h : j < l.length), W.cell? (a.add j) = some (S l[j])) ∧ ∀ x ∈ l, x.length ≤ maxLen
theorem cell_lt {W : World} {p : Addr} {v : Value} (h : W.cell? p = some v) : p.block < W.heap.size := by
  rcases Nat.lt_or_ge p.block W.heap.size with h' | h'
  · exact h'
  · simp [World.cell?, Array.getElem?_eq_none h'] at h
theorem open_S {H : Type} {enc : TypeId × Value → H} {W : World} {base : Nat} {sp : Nat → Bool} {held : Bool} {r : Reach} {b0 : Nat} {v : Value} {d : DataW H} {ps : List MemPlace} (hval : Value.okWide Try.prog W r b0 32 v) (hd : DataW.Trod enc Try.prog W base sp held 32 v d ps) : ∃ l, ArgStrs v l W := by
  obtain ⟨a0, len, cap, rfl⟩ := okWide_slice Try.underlying32 hval
  obtain ⟨fuel, hf⟩ := hd
  rcases open_strings Try.underlying32 Try.underlying9 (by kernel_rfl) hf with ⟨hcs, hx⟩ | ⟨a, len', cap', ss, hcs, _, hl, hm, hz, hx, hcell, hws⟩
  · simp [Value.cells] at hcs
    obtain ⟨rfl, rfl, rfl⟩ := hcs
    exact ⟨[], .inl ⟨rfl, rfl⟩⟩
  · simp [Value.cells] at hcs
    obtain ⟨rfl, rfl, rfl⟩ := hcs
    have hlen : len ≤ ss.length := by rw [hz]; split <;> omega
    refine ⟨(ss.take len).map fun s => s.data.toList, .inr ⟨a, cap, by simp [Nat.min_eq_left hlen], by simp; omega, hm, fun j hj => ?_, fun x hx => ?_⟩⟩
    · simp only [List.length_map, List.length_take] at hj
      have := hcell j (by omega)
      rw [this]
      simp [S, List.getD, List.getElem?_eq_getElem (show j < ss.length by omega)]
    · simp only [List.mem_map] at hx
      obtain ⟨s, hs, rfl⟩ := hx
      have := hws s (List.mem_of_mem_take hs)
      rw [Lib.size_eq] at this; exact this

theorem split_words (l : List (List UInt8)) (h0 : 0 < l.length) (w : World) (hs : (Lb.jn l).length ≤ 1000000) :
    Calls Try.prog 17 #[S (Lb.jn l)] w fun e w' => ∃ g off cap, e = .returned (.tuple #[.slice (some ⟨g, off, none⟩) l.length cap, .int .i64 0]) ∧ (l.length ≤ cap ∧ cap ≤ maxLen ∧ g < w'.heap.size ∧ ∀ j (h : j < l.length), w'.cell? ⟨g, off + j, none⟩ = some (S (Lb.text l[j]))) ∧ Below w.heap.size w w' := by
  have h1 := Lb.split_jn l h0
  refine (split_at _ _ h1 (by simpa using h0) w hs).mono ?_
  rintro e w' ⟨g, off, cap, rfl, ⟨c1, c2, c3, c4⟩, hb⟩
  simp only [List.length_map] at c1 c4 ⊢
  exact ⟨g, off, cap, rfl, ⟨c1, c2, c3, fun j h => by rw [c4 j h, List.getElem_map]⟩, hb⟩
theorem parse_word (l : List UInt8) (h1 : 0 < l.length) (h2 : l.length ≤ 63) (w : World) :
    Calls Try.prog 15 #[S (Lb.text l)] w fun e w' => e = .returned (.tuple #[S l, .int .i64 0]) ∧ Below w.heap.size w w' := by
  have := Lb.text_len l
  refine parse_at _ _ _ ?_ w (by omega)
  rw [Lb.parse_text, if_pos]
  unfold Lb.check; rw [if_neg (by omega), if_neg (by omega)]

def Good (l : List (List UInt8)) (k : Nat) : Prop := k ≤ l.length ∧ ∀ j (h : j < l.length), j < k → 0 < l[j].length ∧ l[j].length ≤ 63
theorem Good.succ {l k} (h : Good l k) (hk : k < l.length) (hl : 0 < l[k].length ∧ l[k].length ≤ 63) : Good l (k + 1) := by
  refine ⟨hk, fun j h' hj => ?_⟩
  by_cases e : j < k
  · exact h.2 j h' e
  · obtain rfl : j = k := by omega
    exact hl
def WordI (l : List (List UInt8)) (w : World) (s i : Value) (wr : World) : Prop := ∃ k : Nat, Good l k ∧ s = S (Lb.jn (l.take k)) ∧ i = .int .i64 k ∧ Below w.heap.size w wr

set_option maxRecDepth 100000 in
set_option maxHeartbeats 1000000 in
theorem walkLabelSplit (v : Value) (l : List (List UInt8)) (w : World) (hv : ArgStrs v l w) :
    Calls Try.prog 6 #[v] w fun e w' => e = .returned (.bool true) ∧ Below w.heap.size w w' := by
  rcases hv with ⟨rfl, rfl⟩ | ⟨a, cap, rfl, h1, h2, hc, hx⟩
  · go_enter Try.func6, Try.ntmps6
    go_wp2_with (go_at_call 8; refine (known_any _).mono ?_; rintro e w1 ⟨rfl, b1⟩)
    go_ret
    exact ⟨rfl, b1⟩
  · unfold maxLen at h2
    by_cases h100 : 20 < l.length ∨ l.length = 0
    · have h' : 20 < (l.length : Int) ∨ (l.length : Int) ≤ 20 ∧ (l.length : Int) = 0 := by omega
      clear h100 hc hx
      rcases h' with h | ⟨h1, h⟩
      all_goals
        go_enter Try.func6, Try.ntmps6
        go_wp2_with (go_at_call 8; refine (known_any _).mono ?_; rintro e w1 ⟨rfl, b1⟩)
        go_ret
        exact ⟨rfl, b1⟩
    · have hl20 : (l.length : Int) ≤ 20 := by omega
      have hl0 : ((l.length : Int) == 0) = false := by rw [beq_eq_false_iff_ne]; omega
      have h0 : 0 < l.length := by omega
      have hcl : ∀ wr, Below w.heap.size w wr → ∀ j (h : j < l.length), wr.cell? (a.add j) = some (S l[j]) := fun wr hb j h => (hb.cell (cell_lt (hc j h))).trans (hc j h)
      have HC := Lib.hid hcl
      have HX := Lib.hid hx
      clear h100 hc hx hcl
      go_enter Try.func6, Try.ntmps6
      go_wp2_with fail
      refine (known_any _).mono ?_
      rintro e w1 ⟨rfl, b1⟩
      go_wp2_with fail
      go_loopw [3, 4] (fun s i wr => WordI l w s i wr) (fun _ i _ => l.length - (intOf i).toNat)
      case atStart => exact ⟨0, ⟨by omega, fun j _ h => by omega⟩, rfl, rfl, b1⟩
      case round =>
        obtain ⟨k, hg, rfl, rfl, hb⟩ := hrel
        have hk0 := hg.1
        by_cases hlt : k < l.length
        · have e1 := HC.out _ hb k hlt
          have hlm := HX.out _ (List.getElem_mem hlt)
          unfold maxLen at hlm
          by_cases hlen : 0 < l[k].length ∧ l[k].length ≤ 63
          · have HG := Lib.hid (show Good l (k + 1) from hg.succ hlt hlen)
            have hj := Lb.jn_len l k hk0 (fun j hj => (hg.2 j _ hj).2)
            have hj1 := Lb.jn_succ l k hlt
            have ht := Lb.text_len l[k]
            have n1 : ((l[k].length : Int) == 0) = false := by rw [beq_eq_false_iff_ne]; omega
            have n2 : (l[k].length : Int) ≤ 63 := by omega
            have n3 : l[k].length ≤ 1000000 := by omega
            clear hlen hg
            by_cases hk1 : 0 < k
            · rw [if_pos hk1] at hj1
              have HJ := Lib.hid hj1
              clear hj1
              have hk1' : 0 < (k : Int) := by omega
              clear hk1
              go_wp2_with fail
              refine (text_any _ _ n3).mono ?_
              rintro e w2 ⟨rfl, b2⟩
              go_wp2_with fail
              exact ⟨⟨k + 1, HG.out, by rw [HJ.out, append_S, append_S], by go_num, below5 hb b2⟩, by simp [intOf]; omega⟩
            · rw [if_neg hk1] at hj1
              have HJ := Lib.hid hj1
              clear hj1
              obtain rfl : k = 0 := by omega
              clear hk1
              replace e1 : wr.cell? a = some (S l[0]) := e1
              have hj0 : (Lb.jn []).length = 0 := rfl
              go_wp2_with fail
              refine (text_any _ _ n3).mono ?_
              rintro e w2 ⟨rfl, b2⟩
              go_wp2_with fail
              exact ⟨⟨0 + 1, HG.out, by rw [HJ.out, append_S]; rfl, rfl, below5 hb b2⟩, by simp [intOf]; omega⟩
          · have hlen' : (l[k].length : Int) = 0 ∨ ¬ (l[k].length : Int) = 0 ∧ 63 < (l[k].length : Int) := by omega
            clear hlen hg
            rcases hlen' with n1 | ⟨n1, n2⟩
            · have n1 : ((l[k].length : Int) == 0) = true := by rw [beq_iff_eq]; exact n1
              go_wp2_with fail
              go_ret
              exact ⟨rfl, hb⟩
            · have n1 : ((l[k].length : Int) == 0) = false := by rw [beq_eq_false_iff_ne]; exact n1
              go_wp2_with fail
              go_ret
              exact ⟨rfl, hb⟩
        · obtain rfl : k = l.length := by omega
          have hj := Lb.jn_len l l.length hk0 (fun j hj => (hg.2 j _ hj).2)
          rw [List.take_length] at hj ⊢
          have HG := Lib.hid hg.2
          clear hlt hg hk0
          go_wp2_with fail
          refine (split_words l h0 _ (by omega)).mono ?_
          rintro e w2 ⟨g, off, cap', rfl, ⟨c1, c2, c3, c4⟩, b2⟩
          have D4 := Lib.hid (show ∀ wr, Below w2.heap.size w2 wr → ∀ j (h : j < l.length), wr.cell? ⟨g, off + j, none⟩ = some (S (Lb.text l[j])) from fun wr hb j h => (hb.cell (p := ⟨g, off + j, none⟩) c3).trans (c4 j h))
          replace b2 := below5 hb b2
          unfold maxLen at c2
          clear c4 hj
          go_wp2_with fail
          go_loopw [7] (fun i wr => ∃ k : Nat, k ≤ l.length ∧ i = .int .i64 k ∧ Below w2.heap.size w2 wr) (fun i _ => l.length - (intOf i).toNat)
          case atStart => exact ⟨0, by omega, rfl, Below.refl _ _⟩
          case round =>
            obtain ⟨k, hk, rfl, hb3⟩ := hrel
            by_cases hlt : k < l.length
            · have e1 := HC.out _ (b2.trans (hb3.mono b2.size)) k hlt
              have e2 := D4.out _ hb3 k hlt
              obtain ⟨g1, g2⟩ := HG.out k hlt hlt
              go_wp2_with fail
              refine (parse_word _ g1 g2 _).mono ?_
              rintro e w3 ⟨rfl, b3⟩
              have b3' := below5 hb3 b3
              have e3 := HC.out _ (b2.trans (b3'.mono b2.size)) k hlt
              go_wp2_with fail
              exact ⟨⟨k + 1, by omega, by go_num, b3'⟩, by simp [intOf]; omega⟩
            · go_wp2_with fail
              go_ret
              exact ⟨rfl, b2.trans (hb3.mono b2.size)⟩
end Go.Proofs.Yteghcnmmdcclcaa
