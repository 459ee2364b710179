/- The walk of NameSwap. -/
import Derived.Test.YtikibmeopndncaaNmR
namespace Go.Proofs.Ytikibmeopndncaa
open Go.RowKit Go.Shelf
set_option maxRecDepth 100000

set_option maxHeartbeats 4000000 in
theorem walkNameSwap (v : Value) (n : List (List UInt8)) (u : Value) (f : List (List UInt8)) (t : Value) (d : List (List UInt8)) (w : World) (hv : Rd v n w) (hu : Rd u f w) (ht : Rd t d w) :
    Calls Try.prog 10 #[v, u, t] w fun e w' => e = .returned (.bool true) ∧ Below w.heap.size w w' := by
  rcases hfn : Nm.few n with _ | _
  · have HFn := Lib.hid hfn
    clear hfn
    go_enter Try.func10, Try.ntmps10
    go_wp2_with fail
    refine (known_any _).mono ?_
    rintro e w1 ⟨rfl, b1⟩
    replace hv := hv.below b1
    replace hu := hu.below b1
    replace ht := ht.below b1
    go_wp2_with fail
    refine (few_any _ n _ hv).mono ?_
    rintro e w2 ⟨rfl, b2⟩
    rw [HFn.out]
    replace hv := hv.below b2
    replace hu := hu.below b2
    replace ht := ht.below b2
    replace b2 := below5 b1 b2
    go_wp2_with fail
    go_ret
    exact ⟨rfl, b2⟩
  obtain ⟨nnn, nln⟩ := few_nb hfn
  have HFn := Lib.hid hfn
  have HNn := Lib.hid nnn
  clear hfn
  rcases hff : Nm.few f with _ | _
  · have HFf := Lib.hid hff
    clear hff
    go_enter Try.func10, Try.ntmps10
    go_wp2_with fail
    refine (known_any _).mono ?_
    rintro e w1 ⟨rfl, b1⟩
    replace hv := hv.below b1
    replace hu := hu.below b1
    replace ht := ht.below b1
    go_wp2_with fail
    refine (few_any _ n _ hv).mono ?_
    rintro e w2 ⟨rfl, b2⟩
    rw [HFn.out]
    replace hv := hv.below b2
    replace hu := hu.below b2
    replace ht := ht.below b2
    replace b2 := below5 b1 b2
    go_wp2_with fail
    refine (few_any _ f _ hu).mono ?_
    rintro e w3 ⟨rfl, b3⟩
    rw [HFf.out]
    replace hv := hv.below b3
    replace hu := hu.below b3
    replace ht := ht.below b3
    replace b3 := below5 b2 b3
    go_wp2_with fail
    go_ret
    exact ⟨rfl, b3⟩
  obtain ⟨nnf, nlf⟩ := few_nb hff
  have HFf := Lib.hid hff
  have HNf := Lib.hid nnf
  clear hff
  rcases hfd : Nm.few d with _ | _
  · have HFd := Lib.hid hfd
    clear hfd
    go_enter Try.func10, Try.ntmps10
    go_wp2_with fail
    refine (known_any _).mono ?_
    rintro e w1 ⟨rfl, b1⟩
    replace hv := hv.below b1
    replace hu := hu.below b1
    replace ht := ht.below b1
    go_wp2_with fail
    refine (few_any _ n _ hv).mono ?_
    rintro e w2 ⟨rfl, b2⟩
    rw [HFn.out]
    replace hv := hv.below b2
    replace hu := hu.below b2
    replace ht := ht.below b2
    replace b2 := below5 b1 b2
    go_wp2_with fail
    refine (few_any _ f _ hu).mono ?_
    rintro e w3 ⟨rfl, b3⟩
    rw [HFf.out]
    replace hv := hv.below b3
    replace hu := hu.below b3
    replace ht := ht.below b3
    replace b3 := below5 b2 b3
    go_wp2_with fail
    refine (few_any _ d _ ht).mono ?_
    rintro e w4 ⟨rfl, b4⟩
    rw [HFd.out]
    replace hv := hv.below b4
    replace hu := hu.below b4
    replace ht := ht.below b4
    replace b4 := below5 b3 b4
    go_wp2_with fail
    go_ret
    exact ⟨rfl, b4⟩
  obtain ⟨nnd, nld⟩ := few_nb hfd
  have HFd := Lib.hid hfd
  have HNd := Lib.hid nnd
  clear hfd
  have HSN := Lib.hid (Nm.swap_nb (f := f) nnn nnd (by omega))
  have HBK := Lib.hid (fun s h k => Nm.swap_back (n := n) (f := f) (t := d) (s := s) h k)
  have HBN := Lib.hid (show NB (n.take (n.length - f.length) ++ f) from (nnn.take _).append nnf (by simp; omega))
  obtain ⟨⟨s, z⟩, hp⟩ : ∃ p, Nm.swap n f d = p := ⟨_, rfl⟩
  rw [hp] at HSN
  have HS := Lib.hid hp
  have hsn := HSN.out
  have HNs := Lib.hid hsn.1
  have hsl : s.length ≤ 280 := by have := hsn.2; simp only at this; omega
  clear HSN hsn nnn nnf nnd
  have HE := Lib.hid (show (s == s) = true by simp)
  obtain ⟨y, hy⟩ : ∃ y, Nm.check n = y := ⟨_, rfl⟩
  have HY := Lib.hid hy
  clear hp hy
  by_cases h0 : z = 0
  · by_cases hy0 : y = 0
    · subst h0 hy0
      obtain ⟨b, hb1, hb2, hb3, rfl⟩ := HBK.out s HS.out HY.out
      have H1 := Lib.hid hb1
      have H2 := Lib.hid hb2
      have H3 := Lib.hid hb3
      clear hb1 hb2 hb3 HBK
      go_enter Try.func10, Try.ntmps10
      go_wp2_with fail
      refine (known_any _).mono ?_
      rintro e w1 ⟨rfl, b1⟩
      replace hv := hv.below b1
      replace hu := hu.below b1
      replace ht := ht.below b1
      go_wp2_with fail
      refine (few_any _ n _ hv).mono ?_
      rintro e w2 ⟨rfl, b2⟩
      rw [HFn.out]
      replace hv := hv.below b2
      replace hu := hu.below b2
      replace ht := ht.below b2
      replace b2 := below5 b1 b2
      go_wp2_with fail
      refine (few_any _ f _ hu).mono ?_
      rintro e w3 ⟨rfl, b3⟩
      rw [HFf.out]
      replace hv := hv.below b3
      replace hu := hu.below b3
      replace ht := ht.below b3
      replace b3 := below5 b2 b3
      go_wp2_with fail
      refine (few_any _ d _ ht).mono ?_
      rintro e w4 ⟨rfl, b4⟩
      rw [HFd.out]
      replace hv := hv.below b4
      replace hu := hu.below b4
      replace ht := ht.below b4
      replace b4 := below5 b3 b4
      go_wp2_with fail
      refine (nSwap_any _ _ _ n f d _ hv hu ht HNn.out HNf.out HNd.out (by omega)).mono ?_
      rintro e w5 ⟨vx, rfl, hx, b5⟩
      rw [HS.out] at hx ⊢
      replace hv := hv.below b5
      replace hu := hu.below b5
      replace ht := ht.below b5
      replace b5 := below5 b4 b5
      go_wp2_with fail
      refine (refSwap_any _ _ _ n f d _ hv hu ht HNn.out HNf.out HNd.out (by omega)).mono ?_
      rintro e w6 ⟨vy, rfl, hy, b6⟩
      rw [HS.out] at hy ⊢
      replace hv := hv.below b6
      replace hu := hu.below b6
      replace ht := ht.below b6
      replace hx := hx.below b6
      replace b6 := below5 b5 b6
      go_wp2_with fail
      refine (is_any _ _ s s _ hx hy HNs.out HNs.out).mono ?_
      rintro e w7 ⟨rfl, b7⟩
      rw [HE.out]
      replace hv := hv.below b7
      replace hu := hu.below b7
      replace ht := ht.below b7
      replace hx := hx.below b7
      replace hy := hy.below b7
      replace b7 := below5 b6 b7
      go_wp2_with fail
      refine (refCheckName_any _ n _ hv HNn.out).mono ?_
      rintro e w8 ⟨rfl, b8⟩
      rw [HY.out]
      replace hv := hv.below b8
      replace hu := hu.below b8
      replace ht := ht.below b8
      replace hx := hx.below b8
      replace b8 := below5 b7 b8
      go_wp2_with fail
      refine (nSwap_any _ _ _ s d f _ hx ht hu HNs.out HNd.out HNf.out (by omega)).mono ?_
      rintro e w9 ⟨vz, rfl, hz, b9⟩
      rw [H1.out] at hz ⊢
      replace hv := hv.below b9
      replace hu := hu.below b9
      replace ht := ht.below b9
      replace hx := hx.below b9
      replace b9 := below5 b8 b9
      go_wp2_with fail
      refine (nSame_any _ _ _ n _ hz hv HBN.out HNn.out).mono ?_
      rintro e w10 ⟨rfl, b10⟩
      rw [H2.out]
      replace hv := hv.below b10
      replace hu := hu.below b10
      replace ht := ht.below b10
      replace hx := hx.below b10
      replace hz := hz.below b10
      replace b10 := below5 b9 b10
      go_wp2_with fail
      refine (nUnder_any _ _ s d _ hx ht HNs.out HNd.out).mono ?_
      rintro e w11 ⟨rfl, b11⟩
      rw [H3.out]
      replace hv := hv.below b11
      replace hu := hu.below b11
      replace ht := ht.below b11
      replace hx := hx.below b11
      replace hz := hz.below b11
      replace b11 := below5 b10 b11
      go_wp2_with fail
      go_ret
      exact ⟨rfl, b11⟩
    · clear HBK HBN
      subst h0
      go_enter Try.func10, Try.ntmps10
      go_wp2_with fail
      refine (known_any _).mono ?_
      rintro e w1 ⟨rfl, b1⟩
      replace hv := hv.below b1
      replace hu := hu.below b1
      replace ht := ht.below b1
      go_wp2_with fail
      refine (few_any _ n _ hv).mono ?_
      rintro e w2 ⟨rfl, b2⟩
      rw [HFn.out]
      replace hv := hv.below b2
      replace hu := hu.below b2
      replace ht := ht.below b2
      replace b2 := below5 b1 b2
      go_wp2_with fail
      refine (few_any _ f _ hu).mono ?_
      rintro e w3 ⟨rfl, b3⟩
      rw [HFf.out]
      replace hv := hv.below b3
      replace hu := hu.below b3
      replace ht := ht.below b3
      replace b3 := below5 b2 b3
      go_wp2_with fail
      refine (few_any _ d _ ht).mono ?_
      rintro e w4 ⟨rfl, b4⟩
      rw [HFd.out]
      replace hv := hv.below b4
      replace hu := hu.below b4
      replace ht := ht.below b4
      replace b4 := below5 b3 b4
      go_wp2_with fail
      refine (nSwap_any _ _ _ n f d _ hv hu ht HNn.out HNf.out HNd.out (by omega)).mono ?_
      rintro e w5 ⟨vx, rfl, hx, b5⟩
      rw [HS.out] at hx ⊢
      replace hv := hv.below b5
      replace hu := hu.below b5
      replace ht := ht.below b5
      replace b5 := below5 b4 b5
      go_wp2_with fail
      refine (refSwap_any _ _ _ n f d _ hv hu ht HNn.out HNf.out HNd.out (by omega)).mono ?_
      rintro e w6 ⟨vy, rfl, hy, b6⟩
      rw [HS.out] at hy ⊢
      replace hv := hv.below b6
      replace hu := hu.below b6
      replace ht := ht.below b6
      replace hx := hx.below b6
      replace b6 := below5 b5 b6
      go_wp2_with fail
      refine (is_any _ _ s s _ hx hy HNs.out HNs.out).mono ?_
      rintro e w7 ⟨rfl, b7⟩
      rw [HE.out]
      replace hv := hv.below b7
      replace hu := hu.below b7
      replace ht := ht.below b7
      replace hx := hx.below b7
      replace hy := hy.below b7
      replace b7 := below5 b6 b7
      go_wp2_with fail
      refine (refCheckName_any _ n _ hv HNn.out).mono ?_
      rintro e w8 ⟨rfl, b8⟩
      rw [HY.out]
      replace hv := hv.below b8
      replace hu := hu.below b8
      replace ht := ht.below b8
      replace hx := hx.below b8
      replace b8 := below5 b7 b8
      go_wp2_with fail
      go_ret
      exact ⟨rfl, b8⟩
  · clear HBK HBN
    go_enter Try.func10, Try.ntmps10
    go_wp2_with fail
    refine (known_any _).mono ?_
    rintro e w1 ⟨rfl, b1⟩
    replace hv := hv.below b1
    replace hu := hu.below b1
    replace ht := ht.below b1
    go_wp2_with fail
    refine (few_any _ n _ hv).mono ?_
    rintro e w2 ⟨rfl, b2⟩
    rw [HFn.out]
    replace hv := hv.below b2
    replace hu := hu.below b2
    replace ht := ht.below b2
    replace b2 := below5 b1 b2
    go_wp2_with fail
    refine (few_any _ f _ hu).mono ?_
    rintro e w3 ⟨rfl, b3⟩
    rw [HFf.out]
    replace hv := hv.below b3
    replace hu := hu.below b3
    replace ht := ht.below b3
    replace b3 := below5 b2 b3
    go_wp2_with fail
    refine (few_any _ d _ ht).mono ?_
    rintro e w4 ⟨rfl, b4⟩
    rw [HFd.out]
    replace hv := hv.below b4
    replace hu := hu.below b4
    replace ht := ht.below b4
    replace b4 := below5 b3 b4
    go_wp2_with fail
    refine (nSwap_any _ _ _ n f d _ hv hu ht HNn.out HNf.out HNd.out (by omega)).mono ?_
    rintro e w5 ⟨vx, rfl, hx, b5⟩
    rw [HS.out] at hx ⊢
    replace hv := hv.below b5
    replace hu := hu.below b5
    replace ht := ht.below b5
    replace b5 := below5 b4 b5
    go_wp2_with fail
    refine (refSwap_any _ _ _ n f d _ hv hu ht HNn.out HNf.out HNd.out (by omega)).mono ?_
    rintro e w6 ⟨vy, rfl, hy, b6⟩
    rw [HS.out] at hy ⊢
    replace hv := hv.below b6
    replace hu := hu.below b6
    replace ht := ht.below b6
    replace hx := hx.below b6
    replace b6 := below5 b5 b6
    go_wp2_with fail
    refine (is_any _ _ s s _ hx hy HNs.out HNs.out).mono ?_
    rintro e w7 ⟨rfl, b7⟩
    rw [HE.out]
    replace hv := hv.below b7
    replace hu := hu.below b7
    replace ht := ht.below b7
    replace hx := hx.below b7
    replace hy := hy.below b7
    replace b7 := below5 b6 b7
    go_wp2_with fail
    go_ret
    exact ⟨rfl, b7⟩

end Go.Proofs.Ytikibmeopndncaa
