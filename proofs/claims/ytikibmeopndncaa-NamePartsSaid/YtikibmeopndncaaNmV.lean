/- The walk of NameParts. -/
import Derived.Test.YtikibmeopndncaaApp
namespace Go.Proofs.Ytikibmeopndncaa
open Go.RowKit Go.Shelf
set_option maxRecDepth 100000

def Nm.good (n : List (List UInt8)) : Bool := Nm.few n && (Nm.check n == 0)
set_option maxHeartbeats 2000000 in
theorem good_any (v : Value) (n : List (List UInt8)) (w : World) (hv : Rd v n w) :
    Calls Try.prog 47 #[v] w (Gives (.bool (Nm.good n)) w) := by
  rcases hf : Nm.few n with _ | _
  · have HF := Lib.hid hf
    have HG := Lib.hid (show Nm.good n = false by unfold Nm.good; rw [hf]; rfl)
    clear hf
    go_enter Try.func47, Try.ntmps47
    go_wp2_with fail
    refine (few_any _ n _ hv).mono ?_
    rintro e w1 ⟨rfl, b1⟩
    rw [HF.out]
    replace hv := hv.below b1
    go_wp2_with fail
    go_ret
    exact ⟨by rw [HG.out]; rfl, b1⟩
  · obtain ⟨nn, nl⟩ := few_nb hf
    have HN := Lib.hid nn
    have HF := Lib.hid hf
    obtain ⟨z, hz⟩ : ∃ z, Nm.check n = z := ⟨_, rfl⟩
    have HZ := Lib.hid hz
    have HG := Lib.hid (show Nm.good n = (z == 0) by unfold Nm.good; rw [hf, hz]; rfl)
    clear hf nn hz
    by_cases h0 : z = 0
    · subst h0
      go_enter Try.func47, Try.ntmps47
      go_wp2_with fail
      refine (few_any _ n _ hv).mono ?_
      rintro e w1 ⟨rfl, b1⟩
      rw [HF.out]
      replace hv := hv.below b1
      go_wp2_with fail
      refine (refCheckName_any _ n _ hv HN.out).mono ?_
      rintro e w2 ⟨rfl, b2⟩
      rw [HZ.out]
      replace hv := hv.below b2
      replace b2 := below5 b1 b2
      go_wp2_with fail
      go_ret
      exact ⟨by rw [HG.out]; rfl, b2⟩
    · have h0' : (z == 0) = false := by simpa using h0
      go_enter Try.func47, Try.ntmps47
      go_wp2_with fail
      refine (few_any _ n _ hv).mono ?_
      rintro e w1 ⟨rfl, b1⟩
      rw [HF.out]
      replace hv := hv.below b1
      go_wp2_with fail
      refine (refCheckName_any _ n _ hv HN.out).mono ?_
      rintro e w2 ⟨rfl, b2⟩
      rw [HZ.out]
      replace hv := hv.below b2
      replace b2 := below5 b1 b2
      go_wp2_with fail
      go_ret
      exact ⟨by rw [HG.out]; simp [h0], b2⟩
theorem Nm.good_parts {n : List (List UInt8)} (h : Nm.good n = true) : NB n ∧ n.length ≤ 140 ∧ Nm.few n = true ∧ Nm.check n = 0 := by
  unfold Nm.good at h
  rw [Bool.and_eq_true, beq_iff_eq] at h
  exact ⟨(few_nb h.1).1, (few_nb h.1).2, h.1, h.2⟩

set_option maxHeartbeats 4000000 in
theorem walkNameParts (v : Value) (n : List (List UInt8)) (u : Value) (o : List (List UInt8)) (w : World) (hv : Rd v n w) (hu : Rd u o w) :
    Calls Try.prog 13 #[v, u] w fun e w' => e = .returned (.bool true) ∧ Below w.heap.size w w' := by
  rcases hg : Nm.good n with _ | _
  · have HG := Lib.hid hg
    clear hg
    go_enter Try.func13, Try.ntmps13
    go_wp2_with fail
    refine (known_any _).mono ?_
    rintro e w1 ⟨rfl, b1⟩
    replace hv := hv.below b1
    replace hu := hu.below b1
    go_wp2_with fail
    refine (good_any _ n _ hv).mono ?_
    rintro e w2 ⟨rfl, b2⟩
    rw [HG.out]
    replace hv := hv.below b2
    replace hu := hu.below b2
    replace b2 := below5 b1 b2
    go_wp2_with fail
    go_ret
    exact ⟨rfl, b2⟩
  obtain ⟨nn, nl, hfn, hcn⟩ := Nm.good_parts hg
  have HG := Lib.hid hg
  clear hg
  rcases hk : Nm.good o with _ | _
  · have HK := Lib.hid hk
    clear hk nn hfn hcn
    go_enter Try.func13, Try.ntmps13
    go_wp2_with fail
    refine (known_any _).mono ?_
    rintro e w1 ⟨rfl, b1⟩
    replace hv := hv.below b1
    replace hu := hu.below b1
    go_wp2_with fail
    refine (good_any _ n _ hv).mono ?_
    rintro e w2 ⟨rfl, b2⟩
    rw [HG.out]
    replace hv := hv.below b2
    replace hu := hu.below b2
    replace b2 := below5 b1 b2
    go_wp2_with fail
    refine (good_any _ o _ hu).mono ?_
    rintro e w3 ⟨rfl, b3⟩
    rw [HK.out]
    replace hv := hv.below b3
    replace hu := hu.below b3
    replace b3 := below5 b2 b3
    go_wp2_with fail
    go_ret
    exact ⟨rfl, b3⟩
  obtain ⟨no, ol, hfo, hco⟩ := Nm.good_parts hk
  have HK := Lib.hid hk
  clear hk
  obtain ⟨oa, cap, rfl, hc1, hc2⟩ := hv.form
  by_cases h0 : n = []
  · subst h0
    clear nn hfn hcn no hfo hco
    go_enter Try.func13, Try.ntmps13
    go_wp2_with fail
    refine (known_any _).mono ?_
    rintro e w1 ⟨rfl, b1⟩
    replace hv := hv.below b1
    replace hu := hu.below b1
    go_wp2_with fail
    refine (good_any _ [] _ hv).mono ?_
    rintro e w2 ⟨rfl, b2⟩
    rw [HG.out]
    replace hv := hv.below b2
    replace hu := hu.below b2
    replace b2 := below5 b1 b2
    go_wp2_with fail
    refine (good_any _ o _ hu).mono ?_
    rintro e w3 ⟨rfl, b3⟩
    rw [HK.out]
    replace hv := hv.below b3
    replace hu := hu.below b3
    replace b3 := below5 b2 b3
    go_wp2_with fail
    go_ret
    exact ⟨rfl, b3⟩
  have hn0 : 0 < n.length := List.length_pos_iff.2 h0
  have hn0' : (0 : Int) < n.length := by omega
  have hn0'' : ((n.length : Int) == 0) = false := by rw [beq_eq_false_iff_ne]; omega
  have HN := Lib.hid nn
  have HO := Lib.hid no
  have HA := Lib.hid (nn.append no (by omega))
  have hPT := Nm.parse_text (n := n) (origin := o) hcn
  have hPJ := Nm.parse_jn (n := n) (origin := o) h0 hcn
  have hjt : Nm.text n = Lb.jn n ++ [46] := by rw [Nm.text_pos h0, Nm.words_jn n h0]
  have hTS := Nm.text_split nn nl
  have hJS : ∀ l, Lb.split (Lb.jn n) = some l → l.length ≤ 800 ∧ ∀ x ∈ l, x.length ≤ 1000000 := by
    intro l h
    rw [Lb.split_jn n hn0] at h; cases h
    refine ⟨by simp; omega, fun x hx => ?_⟩
    obtain ⟨y, hy, rfl⟩ := List.mem_map.1 hx
    have := nn.2 y hy; have := Lb.text_len y; omega
  have htl := Nm.text_len_few hfn
  rw [hjt] at hPT hTS htl
  have HJT := Lib.hid hjt
  clear hjt
  obtain ⟨j, hj⟩ : ∃ j, Lb.jn n = j := ⟨_, rfl⟩
  rw [hj] at hPT hPJ hTS hJS htl HJT
  have hjl : j.length ≤ 999999 := by simp at htl; omega
  have HPT := Lib.hid hPT
  have HTS := Lib.hid hTS
  have HJS := Lib.hid hJS
  have HTL := Lib.hid htl
  have E1 := Lib.hid (show (n == n) = true by simp)
  have E2 := Lib.hid (show (n ++ o == n ++ o) = true by simp)
  have hca := Nm.check_append hcn hco
  clear hPT hTS hJS htl hj hfn hfo hcn hco nn no
  rcases hca with hca | hca
  · rw [show Nm.fin (n ++ o) = (n ++ o, 0) by unfold Nm.fin; rw [if_pos hca]] at hPJ
    have HPJ := Lib.hid hPJ
    have HCA := Lib.hid hca
    clear hPJ hca h0
    refine (callsIn_wide (n := 0)).1 ?_
    refine callsIn_of_wp Try.func13 rfl trivial ?_ rfl
    simp only [Try.ntmps13, List.size_toArray, List.length_cons, List.length_nil, Nat.reduceAdd, Nat.reduceSub, Array.replicate_succ, Array.replicate_zero, List.push_toArray, List.append_toArray, List.nil_append, List.cons_append]
    gi_wp2_with fail
    refine (callsIn_wide.2 (known_any _)).mono ?_
    rintro e w1 ⟨rfl, b1⟩
    replace hv := hv.below b1
    replace hu := hu.below b1
    gi_wp2_with fail
    refine (callsIn_wide.2 (good_any _ n _ hv)).mono ?_
    rintro e w2 ⟨rfl, b2⟩
    rw [HG.out]
    replace hv := hv.below b2
    replace hu := hu.below b2
    replace b2 := below5 b1 b2
    gi_wp2_with fail
    refine (callsIn_wide.2 (good_any _ o _ hu)).mono ?_
    rintro e w3 ⟨rfl, b3⟩
    rw [HK.out]
    replace hv := hv.below b3
    replace hu := hu.below b3
    replace b3 := below5 b2 b3
    gi_wp2_with fail
    refine (callsIn_wide.2 (nText_any _ n _ hv HN.out)).mono ?_
    rintro e w4 ⟨rfl, b4⟩
    rw [HJT.out]
    replace hv := hv.below b4
    replace hu := hu.below b4
    replace b4 := below5 b3 b4
    gi_wp2_with fail
    refine (callsIn_wide.2 (nParse_any _ _ o _ hu HO.out (by omega) HTL.out HTS.out)).mono ?_
    rintro e w5 ⟨vx, rfl, hx, b5⟩
    rw [HPT.out] at hx ⊢
    replace hv := hv.below b5
    replace hu := hu.below b5
    replace b5 := below5 b4 b5
    gi_wp2_with fail
    refine (callsIn_wide.2 (nParse_any j _ o _ hu HO.out (by omega) (by omega) HJS.out)).mono ?_
    rintro e w6 ⟨vy, rfl, hy, b6⟩
    rw [HPJ.out] at hy ⊢
    replace hv := hv.below b6
    replace hu := hu.below b6
    replace hx := hx.below b6
    replace b6 := below5 b5 b6
    gi_wp2_with (first | (gi_at_builtin; refine append_rd2 (Own _) rfl _ _ _ _ Try.underlying40 Try.underlying44 rfl _ 0 [] (by rfl) (row_empty _) _ n (by rfl) (hv.below ((Below.refl _ _).alloc (Nat.le_refl _) _)) (by omega) (by simp) ?_; intro v2 w2 hrow2 hgr2; have bb := ((Below.refl _ _).alloc (Nat.le_refl _) _).grown hgr2 (by simp) (fun g hg => by cases hg; exact Nat.le_refl _); simp only [Nat.zero_add, List.nil_append] at hrow2) | (gi_at_builtin; refine append_rd2 (Own _) rfl _ _ _ _ Try.underlying40 Try.underlying44 rfl _ _ n (by rfl) hrow2 _ o (by rfl) (hu.below bb) (by omega) (by have := bb.size; simp; omega) ?_; intro v3 w3 hrow3 hgr3; have b7 := bb.grown hgr3 bb.size (fun g hg => hrow2.2 g hg); rw [show n.length + o.length = (n ++ o).length by simp] at hrow3; have hz := Rd.of_row hrow3; clear bb hrow2 hrow3 hgr2 hgr3))
    replace hv := hv.below b7
    replace hu := hu.below b7
    replace hx := hx.below b7
    replace hy := hy.below b7
    replace b7 := below5 b6 b7
    refine (callsIn_wide.2 (refCheckName_any _ (n ++ o) _ hz HA.out)).mono ?_
    rintro e w8 ⟨rfl, b8⟩
    rw [HCA.out]
    replace hv := hv.below b8
    replace hu := hu.below b8
    replace hx := hx.below b8
    replace hy := hy.below b8
    replace hz := hz.below b8
    replace b8 := below5 b7 b8
    gi_wp2_with fail
    refine (callsIn_wide.2 (is_any _ _ n n _ hx hv HN.out HN.out)).mono ?_
    rintro e w9 ⟨rfl, b9⟩
    rw [E1.out]
    replace hv := hv.below b9
    replace hu := hu.below b9
    replace hx := hx.below b9
    replace hy := hy.below b9
    replace hz := hz.below b9
    replace b9 := below5 b8 b9
    gi_wp2_with fail
    refine (callsIn_wide.2 (is_any _ _ (n ++ o) (n ++ o) _ hy hz HA.out HA.out)).mono ?_
    rintro e w10 ⟨rfl, b10⟩
    rw [E2.out]
    replace hv := hv.below b10
    replace hu := hu.below b10
    replace hx := hx.below b10
    replace hy := hy.below b10
    replace hz := hz.below b10
    replace b10 := below5 b9 b10
    gi_wp2_with fail
    go_ret
    exact ⟨rfl, b10⟩
  · rw [show Nm.fin (n ++ o) = ([], 3) by unfold Nm.fin; rw [if_neg (by rw [hca]; decide), hca]] at hPJ
    have HPJ := Lib.hid hPJ
    have HCA := Lib.hid hca
    clear hPJ hca h0
    refine (callsIn_wide (n := 0)).1 ?_
    refine callsIn_of_wp Try.func13 rfl trivial ?_ rfl
    simp only [Try.ntmps13, List.size_toArray, List.length_cons, List.length_nil, Nat.reduceAdd, Nat.reduceSub, Array.replicate_succ, Array.replicate_zero, List.push_toArray, List.append_toArray, List.nil_append, List.cons_append]
    gi_wp2_with fail
    refine (callsIn_wide.2 (known_any _)).mono ?_
    rintro e w1 ⟨rfl, b1⟩
    replace hv := hv.below b1
    replace hu := hu.below b1
    gi_wp2_with fail
    refine (callsIn_wide.2 (good_any _ n _ hv)).mono ?_
    rintro e w2 ⟨rfl, b2⟩
    rw [HG.out]
    replace hv := hv.below b2
    replace hu := hu.below b2
    replace b2 := below5 b1 b2
    gi_wp2_with fail
    refine (callsIn_wide.2 (good_any _ o _ hu)).mono ?_
    rintro e w3 ⟨rfl, b3⟩
    rw [HK.out]
    replace hv := hv.below b3
    replace hu := hu.below b3
    replace b3 := below5 b2 b3
    gi_wp2_with fail
    refine (callsIn_wide.2 (nText_any _ n _ hv HN.out)).mono ?_
    rintro e w4 ⟨rfl, b4⟩
    rw [HJT.out]
    replace hv := hv.below b4
    replace hu := hu.below b4
    replace b4 := below5 b3 b4
    gi_wp2_with fail
    refine (callsIn_wide.2 (nParse_any _ _ o _ hu HO.out (by omega) HTL.out HTS.out)).mono ?_
    rintro e w5 ⟨vx, rfl, hx, b5⟩
    rw [HPT.out] at hx ⊢
    replace hv := hv.below b5
    replace hu := hu.below b5
    replace b5 := below5 b4 b5
    gi_wp2_with fail
    refine (callsIn_wide.2 (nParse_any j _ o _ hu HO.out (by omega) (by omega) HJS.out)).mono ?_
    rintro e w6 ⟨vy, rfl, hy, b6⟩
    rw [HPJ.out] at hy ⊢
    replace hv := hv.below b6
    replace hu := hu.below b6
    replace hx := hx.below b6
    replace b6 := below5 b5 b6
    obtain ⟨oy, capy, rfl, hy1, hy2⟩ := hy.form
    gi_wp2_with (first | (gi_at_builtin; refine append_rd2 (Own _) rfl _ _ _ _ Try.underlying40 Try.underlying44 rfl _ 0 [] (by rfl) (row_empty _) _ n (by rfl) (hv.below ((Below.refl _ _).alloc (Nat.le_refl _) _)) (by omega) (by simp) ?_; intro v2 w2 hrow2 hgr2; have bb := ((Below.refl _ _).alloc (Nat.le_refl _) _).grown hgr2 (by simp) (fun g hg => by cases hg; exact Nat.le_refl _); simp only [Nat.zero_add, List.nil_append] at hrow2) | (gi_at_builtin; refine append_rd2 (Own _) rfl _ _ _ _ Try.underlying40 Try.underlying44 rfl _ _ n (by rfl) hrow2 _ o (by rfl) (hu.below bb) (by omega) (by have := bb.size; simp; omega) ?_; intro v3 w3 hrow3 hgr3; have b7 := bb.grown hgr3 bb.size (fun g hg => hrow2.2 g hg); rw [show n.length + o.length = (n ++ o).length by simp] at hrow3; have hz := Rd.of_row hrow3; clear bb hrow2 hrow3 hgr2 hgr3))
    replace hv := hv.below b7
    replace hu := hu.below b7
    replace hx := hx.below b7
    replace hy := hy.below b7
    replace b7 := below5 b6 b7
    refine (callsIn_wide.2 (refCheckName_any _ (n ++ o) _ hz HA.out)).mono ?_
    rintro e w8 ⟨rfl, b8⟩
    rw [HCA.out]
    replace hv := hv.below b8
    replace hu := hu.below b8
    replace hx := hx.below b8
    replace hy := hy.below b8
    replace hz := hz.below b8
    replace b8 := below5 b7 b8
    gi_wp2_with fail
    go_ret
    exact ⟨rfl, b8⟩
end Go.Proofs.Ytikibmeopndncaa
