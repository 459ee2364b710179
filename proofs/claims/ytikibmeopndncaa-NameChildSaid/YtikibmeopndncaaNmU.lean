/- The walks of NameChild, NameParts. -/
import Derived.Test.YtikibmeopndncaaApp
namespace Go.Proofs.Ytikibmeopndncaa
open Go.RowKit Go.Shelf
set_option maxRecDepth 100000

set_option maxHeartbeats 4000000 in
theorem walkNameChild (l : List UInt8) (v : Value) (n : List (List UInt8)) (w : World) (hl : l.length ≤ maxLen) (hv : Rd v n w) :
    Calls Try.prog 11 #[S l, v] w fun e w' => e = .returned (.bool true) ∧ Below w.heap.size w w' := by
  unfold maxLen at hl
  by_cases h100 : 100 < l.length
  · have h' : 100 < (l.length : Int) := by omega
    go_enter Try.func11, Try.ntmps11
    go_wp2_with fail
    refine (known_any _).mono ?_
    rintro e w1 ⟨rfl, b1⟩
    go_wp2_with fail
    go_ret
    exact ⟨rfl, b1⟩
  have h' : (l.length : Int) ≤ 100 := by omega
  rcases hf : Nm.few n with _ | _
  · have HF := Lib.hid hf
    clear hf
    go_enter Try.func11, Try.ntmps11
    go_wp2_with fail
    refine (known_any _).mono ?_
    rintro e w1 ⟨rfl, b1⟩
    replace hv := hv.below b1
    go_wp2_with fail
    refine (few_any _ n _ hv).mono ?_
    rintro e w2 ⟨rfl, b2⟩
    rw [HF.out]
    replace hv := hv.below b2
    replace b2 := below5 b1 b2
    go_wp2_with fail
    go_ret
    exact ⟨rfl, b2⟩
  obtain ⟨nn, nl⟩ := few_nb hf
  have HF := Lib.hid hf
  have HN := Lib.hid nn
  have HC := Lib.hid (show NB (l :: n) from ⟨by have := nl; simp; omega, fun x hx => by
    rcases List.mem_cons.1 hx with rfl | hx
    · omega
    · exact nn.2 x hx⟩)
  have hnl : (Nm.len n : Int) ≤ 1001001 := by have := nn.len; omega
  have HL := Lib.hid (show (Nm.len (l :: n) : Int) = Nm.len n + 1 + l.length by simp only [Nm.len]; omega)
  have E1 := Lib.hid (show (l :: n == l :: n) = true by simp)
  have E2 := Lib.hid (show (n == n) = true by simp)
  have U1 := Lib.hid (show Nm.under (l :: n) n = true from Nm.under_app [l] n)
  have U2 := Lib.hid (Nm.child_not_under l n)
  have U3 := Lib.hid (Nm.child_cmp l n)
  clear hf nn
  refine (callsIn_wide (n := 0)).1 ?_
  refine callsIn_of_wp Try.func11 rfl trivial ?_ rfl
  simp only [Try.ntmps11, List.size_toArray, List.length_cons, List.length_nil, Nat.reduceAdd, Nat.reduceSub, Array.replicate_succ, Array.replicate_zero, List.push_toArray, List.append_toArray, List.nil_append, List.cons_append]
  gi_wp2_with fail
  refine (callsIn_wide.2 (known_any _)).mono ?_
  rintro e w1 ⟨rfl, b1⟩
  replace hv := hv.below b1
  gi_wp2_with fail
  refine (callsIn_wide.2 (few_any _ n _ hv)).mono ?_
  rintro e w2 ⟨rfl, b2⟩
  rw [HF.out]
  replace hv := hv.below b2
  replace b2 := below5 b1 b2
  gi_wp2_with (gi_at_builtin; refine append_rd2 (Own _) rfl _ _ _ _ Try.underlying40 Try.underlying44 rfl _ 0 [] (by rfl) (row_empty _) _ n (by rfl) (hv.below ((Below.refl _ _).alloc (Nat.le_refl _) _)) (by omega) (by simp) ?_; intro v2 w2 hrow2 hgr2; have b3 := ((Below.refl _ _).alloc (Nat.le_refl _) _).grown hgr2 (by simp) (fun g hg => by cases hg; exact Nat.le_refl _); simp only [Nat.zero_add, List.nil_append] at hrow2; have hp := Rd.of_row hrow2; clear hrow2 hgr2)
  replace hv := hv.below b3
  replace b3 := below5 b2 b3
  refine (callsIn_wide.2 (nChild_any l _ n _ hv HN.out)).mono ?_
  rintro e w4 ⟨vc, rfl, hc, b4⟩
  replace hv := hv.below b4
  replace hp := hp.below b4
  replace b4 := below5 b3 b4
  gi_wp2_with fail
  refine (callsIn_wide.2 (refChild_any l _ n _ hv HN.out)).mono ?_
  rintro e w5 ⟨vd, rfl, hd, b5⟩
  replace hv := hv.below b5
  replace hp := hp.below b5
  replace hc := hc.below b5
  replace b5 := below5 b4 b5
  gi_wp2_with fail
  refine (callsIn_wide.2 (is_any _ _ (l :: n) (l :: n) _ hc hd HC.out HC.out)).mono ?_
  rintro e w6 ⟨rfl, b6⟩
  rw [E1.out]
  replace hv := hv.below b6
  replace hp := hp.below b6
  replace hc := hc.below b6
  replace hd := hd.below b6
  replace b6 := below5 b5 b6
  gi_wp2_with fail
  refine (callsIn_wide.2 (nParent_any _ (l :: n) _ hc HC.out)).mono ?_
  rintro e w7 ⟨ve, rfl, he, b7⟩
  replace hv := hv.below b7
  replace hp := hp.below b7
  replace hc := hc.below b7
  replace b7 := below5 b6 b7
  gi_wp2_with fail
  refine (callsIn_wide.2 (is_any _ _ n n _ he hv HN.out HN.out)).mono ?_
  rintro e w8 ⟨rfl, b8⟩
  rw [E2.out]
  replace hv := hv.below b8
  replace hp := hp.below b8
  replace hc := hc.below b8
  replace he := he.below b8
  replace b8 := below5 b7 b8
  gi_wp2_with fail
  refine (callsIn_wide.2 (nUnder_any _ _ (l :: n) n _ hc hv HC.out HN.out)).mono ?_
  rintro e w9 ⟨rfl, b9⟩
  rw [U1.out]
  replace hv := hv.below b9
  replace hp := hp.below b9
  replace hc := hc.below b9
  replace b9 := below5 b8 b9
  gi_wp2_with fail
  refine (callsIn_wide.2 (nUnder_any _ _ n (l :: n) _ hv hc HN.out HC.out)).mono ?_
  rintro e w10 ⟨rfl, b10⟩
  rw [U2.out]
  replace hv := hv.below b10
  replace hp := hp.below b10
  replace hc := hc.below b10
  replace b10 := below5 b9 b10
  gi_wp2_with fail
  refine (callsIn_wide.2 (nCompare_any _ _ n (l :: n) _ hv hc HN.out HC.out)).mono ?_
  rintro e w11 ⟨rfl, b11⟩
  rw [U3.out]
  replace hv := hv.below b11
  replace hp := hp.below b11
  replace hc := hc.below b11
  replace b11 := below5 b10 b11
  gi_wp2_with fail
  refine (callsIn_wide.2 (is_any _ _ n n _ hv hp HN.out HN.out)).mono ?_
  rintro e w12 ⟨rfl, b12⟩
  rw [E2.out]
  replace hv := hv.below b12
  replace hp := hp.below b12
  replace hc := hc.below b12
  replace b12 := below5 b11 b12
  gi_wp2_with fail
  refine (callsIn_wide.2 (nLen_any _ (l :: n) _ hc HC.out)).mono ?_
  rintro e w13 ⟨rfl, b13⟩
  rw [HL.out]
  replace hv := hv.below b13
  replace hp := hp.below b13
  replace hc := hc.below b13
  replace b13 := below5 b12 b13
  gi_wp2_with fail
  refine (callsIn_wide.2 (nLen_any _ n _ hv HN.out)).mono ?_
  rintro e w14 ⟨rfl, b14⟩
  replace hv := hv.below b14
  replace hp := hp.below b14
  replace hc := hc.below b14
  replace b14 := below5 b13 b14
  gi_wp2_with fail
  go_ret
  exact ⟨rfl, b14⟩
end Go.Proofs.Ytikibmeopndncaa
