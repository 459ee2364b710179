/- The walk of NameParse; a name among the arguments. -/
import Derived.Test.YtikibmeopndncaaNmN
import Derived.SliceStrings
namespace Go.Proofs.Ytikibmeopndncaa
open Go.RowKit Go.Shelf Go.ChangeShapes Go.WideShapes
set_option maxRecDepth 100000

theorem open_N {H : Type} {enc : TypeId × Value → H} {W : World} {base : Nat} {sp : Nat → Bool} {held : Bool} {r : Reach} {b0 : Nat} {v : Value} {d : DataW H} {ps : List MemPlace} (hval : Value.okWide Try.prog W r b0 44 v) (hd : DataW.Trod enc Try.prog W base sp held 44 v d ps) : ∃ l, Rd v l W := by
  obtain ⟨a0, len, cap, rfl⟩ := okWide_slice Try.underlying44 hval
  obtain ⟨fuel, hf⟩ := hd
  rcases open_strings Try.underlying44 Try.underlying9 (by kernel_rfl) hf with ⟨hcs, hx⟩ | ⟨a, len', cap', ss, hcs, _, hl, hm, hz, hx, hcell, hws⟩
  · simp [Value.cells] at hcs
    obtain ⟨rfl, rfl, rfl⟩ := hcs
    exact ⟨[], Rd.nil W⟩
  · simp [Value.cells] at hcs
    obtain ⟨rfl, rfl, rfl⟩ := hcs
    have hlen : len ≤ ss.length := by rw [hz]; split <;> omega
    refine ⟨(ss.take len).map fun s => s.data.toList, some a, cap, by simp [Nat.min_eq_left hlen], by simp; omega, hm, (fun h => by cases h), fun j hj => ⟨a, rfl, ?_⟩⟩
    simp only [List.length_map, List.length_take] at hj
    rw [hcell j (by omega)]
    simp [S, List.getD, List.getElem?_eq_getElem (show j < ss.length by omega)]

theorem Lb.splitF_len : ∀ (m : Nat) (s cur : List UInt8) (l : List (List UInt8)), s.length ≤ m → Lb.splitF cur s = some l → l.length ≤ s.length + 1 ∧ ∀ x ∈ l, x.length ≤ cur.length + s.length
  | _, [], cur, l, _, h => by simp only [Lb.splitF, Option.some.injEq] at h; subst h; simp
  | 0, c :: r, cur, l, hm, _ => by simp at hm
  | m + 1, c :: r, cur, l, hm, h => by
    simp only [List.length_cons] at hm ⊢
    unfold Lb.splitF at h
    split at h
    · obtain ⟨y, hy, he⟩ := Option.map_eq_some_iff.1 h
      have := Lb.splitF_len m r [] y (by omega) hy
      subst he
      refine ⟨by simp; omega, fun x hx => ?_⟩
      rcases List.mem_cons.1 hx with rfl | hx
      · omega
      · have := this.2 x hx; simp at this; omega
    · split at h
      · match r, hm, h with
        | [], _, h => cases h
        | d :: r, hm, h =>
          simp only [List.length_cons] at hm ⊢
          have := Lb.splitF_len m r _ l (by omega) h
          refine ⟨by omega, fun x hx => ?_⟩
          have := this.2 x hx; simp at this; omega
      · have := Lb.splitF_len m r _ l (by omega) h
        refine ⟨by omega, fun x hx => ?_⟩
        have := this.2 x hx; simp at this; omega
theorem Lb.split_len {s l} (h : Lb.split s = some l) : l.length ≤ s.length + 1 ∧ ∀ x ∈ l, x.length ≤ s.length := by
  have := Lb.splitF_len s.length s [] l (Nat.le_refl _) h
  simpa using this
theorem Nm.partsF_len : ∀ (l : List (List UInt8)) (n : List (List UInt8)) (b : Bool), Nm.partsF l = .ok (n, b) → n.length ≤ l.length ∧ ∀ x ∈ n, x.length ≤ 63
  | [], n, b, h => by simp only [Nm.partsF, Except.ok.injEq, Prod.mk.injEq] at h; obtain ⟨rfl, _⟩ := h; simp
  | p :: r, n, b, h => by
    unfold Nm.partsF at h
    split at h
    · simp only [Except.ok.injEq, Prod.mk.injEq] at h; obtain ⟨rfl, _⟩ := h; simp
    · split at h
      · rename_i hz
        rcases hr : Nm.partsF r with e | ⟨m, b'⟩
        · rw [hr] at h; cases h
        · rw [hr] at h
          simp only [Except.map, Except.ok.injEq, Prod.mk.injEq] at h
          obtain ⟨rfl, _⟩ := h
          have := Nm.partsF_len r m b' hr
          refine ⟨by simp; omega, fun x hx => ?_⟩
          rcases List.mem_cons.1 hx with rfl | hx
          · exact Lb.parse_len hz
          · exact this.2 x hx
      · cases h
theorem nb_nil : NB [] := ⟨by simp, fun x h => by cases h⟩
theorem Nm.parse_nb {s : List UInt8} {n : List (List UInt8)} (hn : NB n) (hn1 : n.length ≤ 200) (hl : ∀ l, Lb.split s = some l → l.length ≤ 800) : NB (Nm.parse s n).1 := by
  have hf : ∀ m, NB m → NB (Nm.fin m).1 := fun m hm => by unfold Nm.fin; split; exact hm; exact nb_nil
  unfold Nm.parse
  split
  · exact hn
  · split
    · exact nb_nil
    · split
      · exact nb_nil
      · rcases hp : Nm.parts s with e | ⟨m, b⟩
        · exact nb_nil
        · unfold Nm.parts at hp
          rcases hsp : Lb.split s with _ | l
          · rw [hsp] at hp; cases hp
          · rw [hsp] at hp
            have h1 := hl l hsp
            have h2 := Nm.partsF_len l m b hp
            have hm : NB m := NB.short (by omega) h2.2
            cases b
            · exact hf _ (hm.append hn (by omega))
            · exact hf _ hm
theorem Nm.few_len {n} (h : Nm.few n = true) : n.length ≤ 140 := by
  unfold Nm.few at h; simp only [Bool.and_eq_true, decide_eq_true_eq] at h; exact h.1

set_option maxHeartbeats 2000000 in
theorem walkNameParse (s : List UInt8) (v : Value) (n : List (List UInt8)) (w : World) (hs : s.length ≤ maxLen) (hv : Rd v n w) :
    Calls Try.prog 8 #[S s, v] w fun e w' => e = .returned (.bool true) ∧ Below w.heap.size w w' := by
  unfold maxLen at hs
  by_cases h400 : 400 < s.length
  · have h' : 400 < (s.length : Int) := by omega
    go_enter Try.func8, Try.ntmps8
    go_wp2_with fail
    refine (known_any _).mono ?_
    rintro e w1 ⟨rfl, b1⟩
    go_wp2_with fail
    go_ret
    exact ⟨rfl, b1⟩
  · have h' : (s.length : Int) ≤ 400 := by omega
    rcases hfew : Nm.few n with _ | _
    · have HF := Lib.hid hfew
      clear hfew
      go_enter Try.func8, Try.ntmps8
      go_wp2_with fail
      refine (known_any _).mono ?_
      rintro e w1 ⟨rfl, b1⟩
      go_wp2_with fail
      refine (few_any _ n _ (hv.below b1)).mono ?_
      rintro e w2 ⟨rfl, b2⟩
      rw [HF.out]
      go_wp2_with fail
      go_ret
      exact ⟨rfl, below5 b1 b2⟩
    · have HNB := Lib.hid (NB.few hfew)
      have HLE := Lib.hid (Nm.few_len hfew)
      have HL := Lib.hid (show ∀ l, Lb.split s = some l → l.length ≤ 800 ∧ ∀ x ∈ l, x.length ≤ 1000000 from fun l h => by
        obtain ⟨h1, h2⟩ := Lb.split_len h
        exact ⟨by omega, fun x hx => by have := h2 x hx; omega⟩)
      have HP := Lib.hid (Nm.parse_nb HNB.out (by have := HLE.out; omega) (fun l h => (HL.out l h).1))
      have HF := Lib.hid hfew
      clear hfew
      obtain ⟨p, hp⟩ : ∃ p, Nm.parse s n = p := ⟨_, rfl⟩
      have HPP := Lib.hid hp
      rw [hp] at HP
      clear hp
      obtain ⟨m, z⟩ := p
      go_enter Try.func8, Try.ntmps8
      go_wp2_with fail
      refine (known_any _).mono ?_
      rintro e w1 ⟨rfl, b1⟩
      replace hv := hv.below b1
      go_wp2_with fail
      refine (few_any _ n _ hv).mono ?_
      rintro e w2 ⟨rfl, b2⟩
      rw [HF.out]
      replace hv := hv.below b2
      replace b2 := below5 b1 b2
      go_wp2_with fail
      refine (nParse_any s v n _ hv HNB.out (by have := HLE.out; omega) (by omega) HL.out).mono ?_
      rintro e w3 ⟨v3, rfl, r3, b3⟩
      rw [HPP.out] at r3 ⊢
      replace hv := hv.below b3
      replace b3 := below5 b2 b3
      go_wp2_with fail
      refine (refParseName_any s v n _ hv HNB.out (by have := HLE.out; omega) (by omega) HL.out).mono ?_
      rintro e w4 ⟨v4, rfl, r4, b4⟩
      rw [HPP.out] at r4 ⊢
      replace r3 := r3.below b4
      replace b4 := below5 b3 b4
      go_wp2_with fail
      refine (is_any v3 v4 m m _ r3 r4 HP.out HP.out).mono ?_
      rintro e w5 ⟨rfl, b5⟩
      rw [show (m == m) = true by simp]
      replace b5 := below5 b4 b5
      go_wp2_with fail
      go_ret
      exact ⟨rfl, b5⟩
end Go.Proofs.Ytikibmeopndncaa
