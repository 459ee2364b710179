/- The walk of NameText. -/
import Derived.Test.YtikibmeopndncaaNmP
namespace Go.Proofs.Ytikibmeopndncaa
open Go.RowKit Go.Shelf
set_option maxRecDepth 100000

/-- both names are read, none is long; else the law returns at once -/
theorem few_nb {n : List (List UInt8)} (h : Nm.few n = true) : NB n ∧ n.length ≤ 140 := ⟨NB.few h, Nm.few_len h⟩
theorem Nm.text_split {n : List (List UInt8)} (hn : NB n) (hn1 : n.length ≤ 140) : ∀ l, Lb.split (Nm.text n) = some l → l.length ≤ 800 ∧ ∀ x ∈ l, x.length ≤ 1000000 := by
  intro l h
  by_cases h0 : n = []
  · subst h0
    have := Lb.split_len h
    rw [Nm.text_nil] at this
    exact ⟨by have := this.1; simp at this; omega, fun x hx => by have := this.2 x hx; simp at this; omega⟩
  · rw [Nm.text_pos h0, Nm.split_words h0] at h
    cases h
    refine ⟨by simp; omega, fun x hx => ?_⟩
    rcases List.mem_append.1 hx with hx | hx
    · obtain ⟨y, hy, rfl⟩ := List.mem_map.1 hx
      have := hn.2 y hy; have := Lb.text_len y; omega
    · rw [List.mem_singleton.1 hx]; simp
theorem Nm.text_len_few {n : List (List UInt8)} (h : Nm.few n = true) : (Nm.text n).length ≤ 1000000 := by
  unfold Nm.few at h
  simp only [Bool.and_eq_true, decide_eq_true_eq, List.all_eq_true] at h
  obtain ⟨h1, h2⟩ := h
  have : ∀ n : List (List UInt8), (∀ x ∈ n, x.length ≤ 100) → (Nm.words n).length ≤ 401 * n.length := by
    intro n
    induction n with
    | nil => simp [Nm.words]
    | cons x r ih =>
      intro h
      have h1 := ih (fun y hy => h y (List.mem_cons_of_mem _ hy))
      have h2 := h x (List.mem_cons_self ..)
      have h3 := Lb.text_len x
      simp only [Nm.words, List.length_append, List.length_cons]; omega
  have := this n h2
  by_cases h0 : n = []
  · subst h0; simp [Nm.text]
  · rw [Nm.text_pos h0]; omega

set_option maxHeartbeats 4000000 in
theorem walkNameText (v : Value) (n : List (List UInt8)) (u : Value) (o : List (List UInt8)) (w : World) (hv : Rd v n w) (hu : Rd u o w) :
    Calls Try.prog 7 #[v, u] w fun e w' => e = .returned (.bool true) ∧ Below w.heap.size w w' := by
  rcases hfn : Nm.few n with _ | _
  · have HFn := Lib.hid hfn
    clear hfn
    go_enter Try.func7, Try.ntmps7
    go_wp2_with fail
    refine (known_any _).mono ?_
    rintro e w1 ⟨rfl, b1⟩
    replace hv := hv.below b1
    replace hu := hu.below b1
    go_wp2_with fail
    refine (few_any _ n _ hv).mono ?_
    rintro e w2 ⟨rfl, b2⟩
    rw [HFn.out]
    replace hv := hv.below b2
    replace hu := hu.below b2
    replace b2 := below5 b1 b2
    go_wp2_with fail
    go_ret
    exact ⟨rfl, b2⟩
  obtain ⟨nnn, nln⟩ := few_nb hfn
  have HFn := Lib.hid hfn
  have HNn := Lib.hid nnn
  clear hfn
  rcases hfo : Nm.few o with _ | _
  · have HFo := Lib.hid hfo
    clear hfo
    go_enter Try.func7, Try.ntmps7
    go_wp2_with fail
    refine (known_any _).mono ?_
    rintro e w1 ⟨rfl, b1⟩
    replace hv := hv.below b1
    replace hu := hu.below b1
    go_wp2_with fail
    refine (few_any _ n _ hv).mono ?_
    rintro e w2 ⟨rfl, b2⟩
    rw [HFn.out]
    replace hv := hv.below b2
    replace hu := hu.below b2
    replace b2 := below5 b1 b2
    go_wp2_with fail
    refine (few_any _ o _ hu).mono ?_
    rintro e w3 ⟨rfl, b3⟩
    rw [HFo.out]
    replace hv := hv.below b3
    replace hu := hu.below b3
    replace b3 := below5 b2 b3
    go_wp2_with fail
    go_ret
    exact ⟨rfl, b3⟩
  obtain ⟨nno, nlo⟩ := few_nb hfo
  have HFo := Lib.hid hfo
  have HNo := Lib.hid nno
  clear hfo
  have HTL := Lib.hid (Nm.text_len_few HFn.out)
  have HTS := Lib.hid (Nm.text_split nnn nln)
  have hnl : Nm.len n ≤ 1001001 := nnn.len
  have HNF := Lib.hid nnn.fold
  clear nnn nno
  obtain ⟨z, hz⟩ : ∃ z, Nm.check n = z := ⟨_, rfl⟩
  have HZ := Lib.hid hz
  clear hz
  by_cases h0 : z = 0
  · subst h0
    have HPP := Lib.hid (Nm.parse_text (n := n) (origin := o) HZ.out)
    go_enter Try.func7, Try.ntmps7
    go_wp2_with fail
    refine (known_any _).mono ?_
    rintro e w1 ⟨rfl, b1⟩
    replace hv := hv.below b1
    replace hu := hu.below b1
    go_wp2_with fail
    refine (few_any _ n _ hv).mono ?_
    rintro e w2 ⟨rfl, b2⟩
    rw [HFn.out]
    replace hv := hv.below b2
    replace hu := hu.below b2
    replace b2 := below5 b1 b2
    go_wp2_with fail
    refine (few_any _ o _ hu).mono ?_
    rintro e w3 ⟨rfl, b3⟩
    rw [HFo.out]
    replace hv := hv.below b3
    replace hu := hu.below b3
    replace b3 := below5 b2 b3
    go_wp2_with fail
    refine (refCheckName_any _ n _ hv HNn.out).mono ?_
    rintro e w4 ⟨rfl, b4⟩
    rw [HZ.out]
    replace hv := hv.below b4
    replace hu := hu.below b4
    replace b4 := below5 b3 b4
    go_wp2_with fail
    refine (nText_any _ n _ hv HNn.out).mono ?_
    rintro e w5 ⟨rfl, b5⟩
    replace hv := hv.below b5
    replace hu := hu.below b5
    replace b5 := below5 b4 b5
    go_wp2_with fail
    refine (nCheck_any _ n _ hv HNn.out).mono ?_
    rintro e w6 ⟨rfl, b6⟩
    rw [HZ.out]
    replace hv := hv.below b6
    replace hu := hu.below b6
    replace b6 := below5 b5 b6
    go_wp2_with fail
    refine (refNameText_any _ n _ hv HNn.out).mono ?_
    rintro e w7 ⟨rfl, b7⟩
    replace hv := hv.below b7
    replace hu := hu.below b7
    replace b7 := below5 b6 b7
    go_wp2_with fail
    refine (nLen_any _ n _ hv HNn.out).mono ?_
    rintro e w8 ⟨rfl, b8⟩
    replace hv := hv.below b8
    replace hu := hu.below b8
    replace b8 := below5 b7 b8
    go_wp2_with fail
    refine (refLen_any _ n _ hv HNn.out).mono ?_
    rintro e w9 ⟨rfl, b9⟩
    replace hv := hv.below b9
    replace hu := hu.below b9
    replace b9 := below5 b8 b9
    go_wp2_with fail
    refine (nFold_any _ n _ hv HNn.out).mono ?_
    rintro e w10 ⟨vx, rfl, hx, b10⟩
    replace hv := hv.below b10
    replace hu := hu.below b10
    replace b10 := below5 b9 b10
    go_wp2_with fail
    refine (refFoldN_any _ n _ hv HNn.out).mono ?_
    rintro e w11 ⟨vy, rfl, hy, b11⟩
    replace hv := hv.below b11
    replace hu := hu.below b11
    replace hx := hx.below b11
    replace b11 := below5 b10 b11
    go_wp2_with fail
    refine (is_any _ _ (Nm.fold n) (Nm.fold n) _ hx hy HNF.out HNF.out).mono ?_
    rintro e w12 ⟨rfl, b12⟩
    rw [show (Nm.fold n == Nm.fold n) = true by simp]
    replace hv := hv.below b12
    replace hu := hu.below b12
    replace hx := hx.below b12
    replace hy := hy.below b12
    replace b12 := below5 b11 b12
    go_wp2_with fail
    refine (nWild_any _ n _ hv HNn.out).mono ?_
    rintro e w13 ⟨rfl, b13⟩
    replace hv := hv.below b13
    replace hu := hu.below b13
    replace b13 := below5 b12 b13
    go_wp2_with fail
    refine (refWild_any _ n _ hv HNn.out).mono ?_
    rintro e w14 ⟨rfl, b14⟩
    replace hv := hv.below b14
    replace hu := hu.below b14
    replace b14 := below5 b13 b14
    go_wp2_with fail
    refine (nParse_any _ _ o _ hu HNo.out (by omega) HTL.out HTS.out).mono ?_
    rintro e w15 ⟨vz, rfl, hz, b15⟩
    rw [HPP.out] at hz ⊢
    replace hv := hv.below b15
    replace hu := hu.below b15
    replace b15 := below5 b14 b15
    go_wp2_with fail
    refine (is_any _ _ n n _ hz hv HNn.out HNn.out).mono ?_
    rintro e w16 ⟨rfl, b16⟩
    rw [show (n == n) = true by simp]
    replace hv := hv.below b16
    replace hu := hu.below b16
    replace hz := hz.below b16
    replace b16 := below5 b15 b16
    go_wp2_with fail
    go_ret
    exact ⟨rfl, b16⟩
  · skip
    go_enter Try.func7, Try.ntmps7
    go_wp2_with fail
    refine (known_any _).mono ?_
    rintro e w1 ⟨rfl, b1⟩
    replace hv := hv.below b1
    replace hu := hu.below b1
    go_wp2_with fail
    refine (few_any _ n _ hv).mono ?_
    rintro e w2 ⟨rfl, b2⟩
    rw [HFn.out]
    replace hv := hv.below b2
    replace hu := hu.below b2
    replace b2 := below5 b1 b2
    go_wp2_with fail
    refine (few_any _ o _ hu).mono ?_
    rintro e w3 ⟨rfl, b3⟩
    rw [HFo.out]
    replace hv := hv.below b3
    replace hu := hu.below b3
    replace b3 := below5 b2 b3
    go_wp2_with fail
    refine (refCheckName_any _ n _ hv HNn.out).mono ?_
    rintro e w4 ⟨rfl, b4⟩
    rw [HZ.out]
    replace hv := hv.below b4
    replace hu := hu.below b4
    replace b4 := below5 b3 b4
    go_wp2_with fail
    refine (nText_any _ n _ hv HNn.out).mono ?_
    rintro e w5 ⟨rfl, b5⟩
    replace hv := hv.below b5
    replace hu := hu.below b5
    replace b5 := below5 b4 b5
    go_wp2_with fail
    refine (nCheck_any _ n _ hv HNn.out).mono ?_
    rintro e w6 ⟨rfl, b6⟩
    rw [HZ.out]
    replace hv := hv.below b6
    replace hu := hu.below b6
    replace b6 := below5 b5 b6
    go_wp2_with fail
    refine (refNameText_any _ n _ hv HNn.out).mono ?_
    rintro e w7 ⟨rfl, b7⟩
    replace hv := hv.below b7
    replace hu := hu.below b7
    replace b7 := below5 b6 b7
    go_wp2_with fail
    refine (nLen_any _ n _ hv HNn.out).mono ?_
    rintro e w8 ⟨rfl, b8⟩
    replace hv := hv.below b8
    replace hu := hu.below b8
    replace b8 := below5 b7 b8
    go_wp2_with fail
    refine (refLen_any _ n _ hv HNn.out).mono ?_
    rintro e w9 ⟨rfl, b9⟩
    replace hv := hv.below b9
    replace hu := hu.below b9
    replace b9 := below5 b8 b9
    go_wp2_with fail
    refine (nFold_any _ n _ hv HNn.out).mono ?_
    rintro e w10 ⟨vx, rfl, hx, b10⟩
    replace hv := hv.below b10
    replace hu := hu.below b10
    replace b10 := below5 b9 b10
    go_wp2_with fail
    refine (refFoldN_any _ n _ hv HNn.out).mono ?_
    rintro e w11 ⟨vy, rfl, hy, b11⟩
    replace hv := hv.below b11
    replace hu := hu.below b11
    replace hx := hx.below b11
    replace b11 := below5 b10 b11
    go_wp2_with fail
    refine (is_any _ _ (Nm.fold n) (Nm.fold n) _ hx hy HNF.out HNF.out).mono ?_
    rintro e w12 ⟨rfl, b12⟩
    rw [show (Nm.fold n == Nm.fold n) = true by simp]
    replace hv := hv.below b12
    replace hu := hu.below b12
    replace hx := hx.below b12
    replace hy := hy.below b12
    replace b12 := below5 b11 b12
    go_wp2_with fail
    refine (nWild_any _ n _ hv HNn.out).mono ?_
    rintro e w13 ⟨rfl, b13⟩
    replace hv := hv.below b13
    replace hu := hu.below b13
    replace b13 := below5 b12 b13
    go_wp2_with fail
    refine (refWild_any _ n _ hv HNn.out).mono ?_
    rintro e w14 ⟨rfl, b14⟩
    replace hv := hv.below b14
    replace hu := hu.below b14
    replace b14 := below5 b13 b14
    go_wp2_with fail
    go_ret
    exact ⟨rfl, b14⟩
end Go.Proofs.Ytikibmeopndncaa
