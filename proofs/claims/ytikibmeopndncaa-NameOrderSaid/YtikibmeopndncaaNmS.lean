/- The walks of NameTwo and NameOrder. -/
import Derived.Test.YtikibmeopndncaaNmR
namespace Go.Proofs.Ytikibmeopndncaa
open Go.RowKit Go.Shelf
set_option maxRecDepth 100000

set_option maxHeartbeats 4000000 in
theorem walkNameTwo (v : Value) (a : List (List UInt8)) (u : Value) (c : List (List UInt8)) (w : World) (hv : Rd v a w) (hu : Rd u c w) :
    Calls Try.prog 9 #[v, u] w fun e w' => e = .returned (.bool true) ∧ Below w.heap.size w w' := by
  rcases hfa : Nm.few a with _ | _
  · have HFa := Lib.hid hfa
    clear hfa
    go_enter Try.func9, Try.ntmps9
    go_wp2_with fail
    refine (known_any _).mono ?_
    rintro e w1 ⟨rfl, b1⟩
    replace hv := hv.below b1
    replace hu := hu.below b1
    go_wp2_with fail
    refine (few_any _ a _ hv).mono ?_
    rintro e w2 ⟨rfl, b2⟩
    rw [HFa.out]
    replace hv := hv.below b2
    replace hu := hu.below b2
    replace b2 := below5 b1 b2
    go_wp2_with fail
    go_ret
    exact ⟨rfl, b2⟩
  obtain ⟨nna, nla⟩ := few_nb hfa
  have HFa := Lib.hid hfa
  have HNa := Lib.hid nna
  clear hfa
  rcases hfc : Nm.few c with _ | _
  · have HFc := Lib.hid hfc
    clear hfc
    go_enter Try.func9, Try.ntmps9
    go_wp2_with fail
    refine (known_any _).mono ?_
    rintro e w1 ⟨rfl, b1⟩
    replace hv := hv.below b1
    replace hu := hu.below b1
    go_wp2_with fail
    refine (few_any _ a _ hv).mono ?_
    rintro e w2 ⟨rfl, b2⟩
    rw [HFa.out]
    replace hv := hv.below b2
    replace hu := hu.below b2
    replace b2 := below5 b1 b2
    go_wp2_with fail
    refine (few_any _ c _ hu).mono ?_
    rintro e w3 ⟨rfl, b3⟩
    rw [HFc.out]
    replace hv := hv.below b3
    replace hu := hu.below b3
    replace b3 := below5 b2 b3
    go_wp2_with fail
    go_ret
    exact ⟨rfl, b3⟩
  obtain ⟨nnc, nlc⟩ := few_nb hfc
  have HFc := Lib.hid hfc
  have HNc := Lib.hid nnc
  clear hfc
  have HNC := Lib.hid (Nm.common_nb nna c)
  have HNP := Lib.hid (show NB (Nm.parent a) from nna.drop 1)
  have HE1 := Lib.hid (show (Nm.common a c == Nm.common a c) = true by simp)
  have HE2 := Lib.hid (show (Nm.parent a == Nm.parent a) = true by simp)
  obtain ⟨x, hx⟩ : ∃ x, Nm.cmp a c = x := ⟨_, rfl⟩
  have hr := Nm.cmp_range a c
  have hB := Nm.cmp_anti a c
  have hS := (Nm.cmp_zero a c).symm
  rw [hx] at hr hB hS
  clear nna nnc
  have hx3 : x = -1 ∨ x = 0 ∨ x = 1 := by omega
  clear hr
  rcases hx3 with rfl | rfl | rfl
  all_goals
    simp at hB hS
    have HX := Lib.hid hx
    have HB := Lib.hid hB
    have HS := Lib.hid hS
    clear hx hB hS
    go_enter Try.func9, Try.ntmps9
    go_wp2_with fail
    refine (known_any _).mono ?_
    rintro e w1 ⟨rfl, b1⟩
    replace hv := hv.below b1
    replace hu := hu.below b1
    go_wp2_with fail
    refine (few_any _ a _ hv).mono ?_
    rintro e w2 ⟨rfl, b2⟩
    rw [HFa.out]
    replace hv := hv.below b2
    replace hu := hu.below b2
    replace b2 := below5 b1 b2
    go_wp2_with fail
    refine (few_any _ c _ hu).mono ?_
    rintro e w3 ⟨rfl, b3⟩
    rw [HFc.out]
    replace hv := hv.below b3
    replace hu := hu.below b3
    replace b3 := below5 b2 b3
    go_wp2_with fail
    refine (refCompareN_any _ _ a c _ hv hu HNa.out HNc.out).mono ?_
    rintro e w4 ⟨rfl, b4⟩
    rw [HX.out]
    replace hv := hv.below b4
    replace hu := hu.below b4
    replace b4 := below5 b3 b4
    go_wp2_with fail
    refine (nSame_any _ _ a c _ hv hu HNa.out HNc.out).mono ?_
    rintro e w5 ⟨rfl, b5⟩
    rw [HS.out]
    replace hv := hv.below b5
    replace hu := hu.below b5
    replace b5 := below5 b4 b5
    go_wp2_with fail
    refine (refSame_any _ _ a c _ hv hu HNa.out HNc.out).mono ?_
    rintro e w6 ⟨rfl, b6⟩
    rw [HS.out]
    replace hv := hv.below b6
    replace hu := hu.below b6
    replace b6 := below5 b5 b6
    go_wp2_with fail
    refine (nUnder_any _ _ a c _ hv hu HNa.out HNc.out).mono ?_
    rintro e w7 ⟨rfl, b7⟩
    replace hv := hv.below b7
    replace hu := hu.below b7
    replace b7 := below5 b6 b7
    go_wp2_with fail
    refine (refUnder_any _ _ a c _ hv hu HNa.out HNc.out).mono ?_
    rintro e w8 ⟨rfl, b8⟩
    replace hv := hv.below b8
    replace hu := hu.below b8
    replace b8 := below5 b7 b8
    go_wp2_with fail
    refine (nCompare_any _ _ a c _ hv hu HNa.out HNc.out).mono ?_
    rintro e w9 ⟨rfl, b9⟩
    rw [HX.out]
    replace hv := hv.below b9
    replace hu := hu.below b9
    replace b9 := below5 b8 b9
    go_wp2_with fail
    refine (nCompare_any _ _ c a _ hu hv HNc.out HNa.out).mono ?_
    rintro e w10 ⟨rfl, b10⟩
    rw [HB.out]
    replace hv := hv.below b10
    replace hu := hu.below b10
    replace b10 := below5 b9 b10
    go_wp2_with fail
    refine (nSame_any _ _ a c _ hv hu HNa.out HNc.out).mono ?_
    rintro e w11 ⟨rfl, b11⟩
    rw [HS.out]
    replace hv := hv.below b11
    replace hu := hu.below b11
    replace b11 := below5 b10 b11
    go_wp2_with fail
    refine (nCommon_any _ _ a c _ hv hu HNa.out HNc.out).mono ?_
    rintro e w12 ⟨vp, rfl, hp, b12⟩
    replace hv := hv.below b12
    replace hu := hu.below b12
    replace b12 := below5 b11 b12
    go_wp2_with fail
    refine (refCommon_any _ _ a c _ hv hu HNa.out HNc.out).mono ?_
    rintro e w13 ⟨vq, rfl, hq, b13⟩
    replace hv := hv.below b13
    replace hu := hu.below b13
    replace hp := hp.below b13
    replace b13 := below5 b12 b13
    go_wp2_with fail
    refine (is_any _ _ (Nm.common a c) (Nm.common a c) _ hp hq HNC.out HNC.out).mono ?_
    rintro e w14 ⟨rfl, b14⟩
    rw [HE1.out]
    replace hv := hv.below b14
    replace hu := hu.below b14
    replace hp := hp.below b14
    replace hq := hq.below b14
    replace b14 := below5 b13 b14
    go_wp2_with fail
    refine (nParent_any _ a _ hv HNa.out).mono ?_
    rintro e w15 ⟨vy, rfl, hy, b15⟩
    replace hv := hv.below b15
    replace hu := hu.below b15
    replace b15 := below5 b14 b15
    go_wp2_with fail
    refine (refParent_any _ a _ hv HNa.out).mono ?_
    rintro e w16 ⟨vz, rfl, hz, b16⟩
    replace hv := hv.below b16
    replace hu := hu.below b16
    replace hy := hy.below b16
    replace b16 := below5 b15 b16
    go_wp2_with fail
    refine (is_any _ _ (Nm.parent a) (Nm.parent a) _ hy hz HNP.out HNP.out).mono ?_
    rintro e w17 ⟨rfl, b17⟩
    rw [HE2.out]
    replace hv := hv.below b17
    replace hu := hu.below b17
    replace hy := hy.below b17
    replace hz := hz.below b17
    replace b17 := below5 b16 b17
    go_wp2_with fail
    go_ret
    exact ⟨rfl, b17⟩

set_option maxHeartbeats 4000000 in
theorem walkNameOrder (v : Value) (a : List (List UInt8)) (u : Value) (c : List (List UInt8)) (t : Value) (d : List (List UInt8)) (w : World) (hv : Rd v a w) (hu : Rd u c w) (ht : Rd t d w) :
    Calls Try.prog 12 #[v, u, t] w fun e w' => e = .returned (.bool true) ∧ Below w.heap.size w w' := by
  rcases hfa : Nm.few a with _ | _
  · have HFa := Lib.hid hfa
    clear hfa
    go_enter Try.func12, Try.ntmps12
    go_wp2_with fail
    refine (known_any _).mono ?_
    rintro e w1 ⟨rfl, b1⟩
    replace hv := hv.below b1
    replace hu := hu.below b1
    replace ht := ht.below b1
    go_wp2_with fail
    refine (few_any _ a _ hv).mono ?_
    rintro e w2 ⟨rfl, b2⟩
    rw [HFa.out]
    replace hv := hv.below b2
    replace hu := hu.below b2
    replace ht := ht.below b2
    replace b2 := below5 b1 b2
    go_wp2_with fail
    go_ret
    exact ⟨rfl, b2⟩
  obtain ⟨nna, nla⟩ := few_nb hfa
  have HFa := Lib.hid hfa
  have HNa := Lib.hid nna
  clear hfa
  rcases hfc : Nm.few c with _ | _
  · have HFc := Lib.hid hfc
    clear hfc
    go_enter Try.func12, Try.ntmps12
    go_wp2_with fail
    refine (known_any _).mono ?_
    rintro e w1 ⟨rfl, b1⟩
    replace hv := hv.below b1
    replace hu := hu.below b1
    replace ht := ht.below b1
    go_wp2_with fail
    refine (few_any _ a _ hv).mono ?_
    rintro e w2 ⟨rfl, b2⟩
    rw [HFa.out]
    replace hv := hv.below b2
    replace hu := hu.below b2
    replace ht := ht.below b2
    replace b2 := below5 b1 b2
    go_wp2_with fail
    refine (few_any _ c _ hu).mono ?_
    rintro e w3 ⟨rfl, b3⟩
    rw [HFc.out]
    replace hv := hv.below b3
    replace hu := hu.below b3
    replace ht := ht.below b3
    replace b3 := below5 b2 b3
    go_wp2_with fail
    go_ret
    exact ⟨rfl, b3⟩
  obtain ⟨nnc, nlc⟩ := few_nb hfc
  have HFc := Lib.hid hfc
  have HNc := Lib.hid nnc
  clear hfc
  rcases hfd : Nm.few d with _ | _
  · have HFd := Lib.hid hfd
    clear hfd
    go_enter Try.func12, Try.ntmps12
    go_wp2_with fail
    refine (known_any _).mono ?_
    rintro e w1 ⟨rfl, b1⟩
    replace hv := hv.below b1
    replace hu := hu.below b1
    replace ht := ht.below b1
    go_wp2_with fail
    refine (few_any _ a _ hv).mono ?_
    rintro e w2 ⟨rfl, b2⟩
    rw [HFa.out]
    replace hv := hv.below b2
    replace hu := hu.below b2
    replace ht := ht.below b2
    replace b2 := below5 b1 b2
    go_wp2_with fail
    refine (few_any _ c _ hu).mono ?_
    rintro e w3 ⟨rfl, b3⟩
    rw [HFc.out]
    replace hv := hv.below b3
    replace hu := hu.below b3
    replace ht := ht.below b3
    replace b3 := below5 b2 b3
    go_wp2_with fail
    refine (few_any _ d _ ht).mono ?_
    rintro e w4 ⟨rfl, b4⟩
    rw [HFd.out]
    replace hv := hv.below b4
    replace hu := hu.below b4
    replace ht := ht.below b4
    replace b4 := below5 b3 b4
    go_wp2_with fail
    go_ret
    exact ⟨rfl, b4⟩
  obtain ⟨nnd, nld⟩ := few_nb hfd
  have HFd := Lib.hid hfd
  have HNd := Lib.hid nnd
  clear hfd
  have HNF := Lib.hid nna.fold
  have HSF := Lib.hid (Nm.same_fold a)
  have HUN := Lib.hid (Nm.under_nil a)
  have HUC := Lib.hid (fun h => Nm.under_cmp (a := a) (b := c) h)
  have HUT := Lib.hid (fun h k => Nm.under_trans (a := a) (b := c) (c := d) h k)
  have HCT := Lib.hid (fun h k => Nm.cmp_trans (a := a) (b := c) (c := d) h k)
  obtain ⟨x, hx⟩ : ∃ x, Nm.cmp a c = x := ⟨_, rfl⟩
  obtain ⟨y, hy⟩ : ∃ y, Nm.cmp c d = y := ⟨_, rfl⟩
  obtain ⟨z, hz⟩ : ∃ z, Nm.cmp a d = z := ⟨_, rfl⟩
  have hxr := Nm.cmp_range a c
  have hyr := Nm.cmp_range c d
  have hzr := Nm.cmp_range a d
  rw [hx] at HUC HCT hxr
  rw [hy] at HCT hyr
  rw [hz] at HCT hzr
  have HX := Lib.hid hx
  have HY := Lib.hid hy
  have HZ := Lib.hid hz
  clear hx hy hz nna nnc nnd
  have hcase : 0 < x ∨ (x ≤ 0 ∧ 0 < y) ∨ (x ≤ 0 ∧ y ≤ 0 ∧ z ≤ 0) := by
    rcases Int.lt_or_le 0 x with h | h
    · exact .inl h
    · rcases Int.lt_or_le 0 y with k | k
      · exact .inr (.inl ⟨h, k⟩)
      · exact .inr (.inr ⟨h, k, HCT.out h k⟩)
  have hund : Nm.under a c = false ∨ (Nm.under a c = true ∧ Nm.under c d = false ∧ 0 ≤ x) ∨ (Nm.under a c = true ∧ Nm.under c d = true ∧ Nm.under a d = true ∧ 0 ≤ x) := by
    rcases h1 : Nm.under a c with _ | _
    · exact .inl rfl
    · rcases h2 : Nm.under c d with _ | _
      · exact .inr (.inl ⟨rfl, rfl, HUC.out h1⟩)
      · exact .inr (.inr ⟨rfl, rfl, HUT.out h1 h2, HUC.out h1⟩)
  clear HUC HUT HCT
  clear hxr hyr hzr
  rcases hcase with h1 | ⟨h1, h2⟩ | ⟨h1, h2, h3⟩
  · rcases hund with h4 | ⟨h4, h5, h7⟩ | ⟨h4, h5, h6, h7⟩
    · have H4 := Lib.hid h4
      clear h4
      go_enter Try.func12, Try.ntmps12
      go_wp2_with fail
      refine (known_any _).mono ?_
      rintro e w1 ⟨rfl, b1⟩
      replace hv := hv.below b1
      replace hu := hu.below b1
      replace ht := ht.below b1
      go_wp2_with fail
      refine (few_any _ a _ hv).mono ?_
      rintro e w2 ⟨rfl, b2⟩
      rw [HFa.out]
      replace hv := hv.below b2
      replace hu := hu.below b2
      replace ht := ht.below b2
      replace b2 := below5 b1 b2
      go_wp2_with fail
      refine (few_any _ c _ hu).mono ?_
      rintro e w3 ⟨rfl, b3⟩
      rw [HFc.out]
      replace hv := hv.below b3
      replace hu := hu.below b3
      replace ht := ht.below b3
      replace b3 := below5 b2 b3
      go_wp2_with fail
      refine (few_any _ d _ ht).mono ?_
      rintro e w4 ⟨rfl, b4⟩
      rw [HFd.out]
      replace hv := hv.below b4
      replace hu := hu.below b4
      replace ht := ht.below b4
      replace b4 := below5 b3 b4
      go_wp2_with fail
      refine (nCompare_any _ _ a c _ hv hu HNa.out HNc.out).mono ?_
      rintro e w5 ⟨rfl, b5⟩
      rw [HX.out]
      replace hv := hv.below b5
      replace hu := hu.below b5
      replace ht := ht.below b5
      replace b5 := below5 b4 b5
      go_wp2_with fail
      refine (nCompare_any _ _ c d _ hu ht HNc.out HNd.out).mono ?_
      rintro e w6 ⟨rfl, b6⟩
      rw [HY.out]
      replace hv := hv.below b6
      replace hu := hu.below b6
      replace ht := ht.below b6
      replace b6 := below5 b5 b6
      go_wp2_with fail
      refine (nUnder_any _ _ a c _ hv hu HNa.out HNc.out).mono ?_
      rintro e w7 ⟨rfl, b7⟩
      rw [H4.out]
      replace hv := hv.below b7
      replace hu := hu.below b7
      replace ht := ht.below b7
      replace b7 := below5 b6 b7
      go_wp2_with fail
      refine (nUnder_any _ _ a c _ hv hu HNa.out HNc.out).mono ?_
      rintro e w8 ⟨rfl, b8⟩
      rw [H4.out]
      replace hv := hv.below b8
      replace hu := hu.below b8
      replace ht := ht.below b8
      replace b8 := below5 b7 b8
      go_wp2_with fail
      refine (nUnder_any _ _ a [] _ hv (Rd.nil _) HNa.out nb_nil).mono ?_
      rintro e w9 ⟨rfl, b9⟩
      rw [HUN.out]
      replace hv := hv.below b9
      replace hu := hu.below b9
      replace ht := ht.below b9
      replace b9 := below5 b8 b9
      go_wp2_with fail
      refine (nFold_any _ a _ hv HNa.out).mono ?_
      rintro e w10 ⟨vp, rfl, hp, b10⟩
      replace hv := hv.below b10
      replace hu := hu.below b10
      replace ht := ht.below b10
      replace b10 := below5 b9 b10
      go_wp2_with fail
      refine (nSame_any _ _ a (Nm.fold a) _ hv hp HNa.out HNF.out).mono ?_
      rintro e w11 ⟨rfl, b11⟩
      rw [HSF.out]
      replace hv := hv.below b11
      replace hu := hu.below b11
      replace ht := ht.below b11
      replace hp := hp.below b11
      replace b11 := below5 b10 b11
      go_wp2_with fail
      go_ret
      exact ⟨rfl, b11⟩
    · have H4 := Lib.hid h4
      have H5 := Lib.hid h5
      clear h4 h5
      go_enter Try.func12, Try.ntmps12
      go_wp2_with fail
      refine (known_any _).mono ?_
      rintro e w1 ⟨rfl, b1⟩
      replace hv := hv.below b1
      replace hu := hu.below b1
      replace ht := ht.below b1
      go_wp2_with fail
      refine (few_any _ a _ hv).mono ?_
      rintro e w2 ⟨rfl, b2⟩
      rw [HFa.out]
      replace hv := hv.below b2
      replace hu := hu.below b2
      replace ht := ht.below b2
      replace b2 := below5 b1 b2
      go_wp2_with fail
      refine (few_any _ c _ hu).mono ?_
      rintro e w3 ⟨rfl, b3⟩
      rw [HFc.out]
      replace hv := hv.below b3
      replace hu := hu.below b3
      replace ht := ht.below b3
      replace b3 := below5 b2 b3
      go_wp2_with fail
      refine (few_any _ d _ ht).mono ?_
      rintro e w4 ⟨rfl, b4⟩
      rw [HFd.out]
      replace hv := hv.below b4
      replace hu := hu.below b4
      replace ht := ht.below b4
      replace b4 := below5 b3 b4
      go_wp2_with fail
      refine (nCompare_any _ _ a c _ hv hu HNa.out HNc.out).mono ?_
      rintro e w5 ⟨rfl, b5⟩
      rw [HX.out]
      replace hv := hv.below b5
      replace hu := hu.below b5
      replace ht := ht.below b5
      replace b5 := below5 b4 b5
      go_wp2_with fail
      refine (nCompare_any _ _ c d _ hu ht HNc.out HNd.out).mono ?_
      rintro e w6 ⟨rfl, b6⟩
      rw [HY.out]
      replace hv := hv.below b6
      replace hu := hu.below b6
      replace ht := ht.below b6
      replace b6 := below5 b5 b6
      go_wp2_with fail
      refine (nUnder_any _ _ a c _ hv hu HNa.out HNc.out).mono ?_
      rintro e w7 ⟨rfl, b7⟩
      rw [H4.out]
      replace hv := hv.below b7
      replace hu := hu.below b7
      replace ht := ht.below b7
      replace b7 := below5 b6 b7
      go_wp2_with fail
      refine (nUnder_any _ _ a c _ hv hu HNa.out HNc.out).mono ?_
      rintro e w8 ⟨rfl, b8⟩
      rw [H4.out]
      replace hv := hv.below b8
      replace hu := hu.below b8
      replace ht := ht.below b8
      replace b8 := below5 b7 b8
      go_wp2_with fail
      refine (nUnder_any _ _ c d _ hu ht HNc.out HNd.out).mono ?_
      rintro e w9 ⟨rfl, b9⟩
      rw [H5.out]
      replace hv := hv.below b9
      replace hu := hu.below b9
      replace ht := ht.below b9
      replace b9 := below5 b8 b9
      go_wp2_with fail
      refine (nUnder_any _ _ a [] _ hv (Rd.nil _) HNa.out nb_nil).mono ?_
      rintro e w10 ⟨rfl, b10⟩
      rw [HUN.out]
      replace hv := hv.below b10
      replace hu := hu.below b10
      replace ht := ht.below b10
      replace b10 := below5 b9 b10
      go_wp2_with fail
      refine (nFold_any _ a _ hv HNa.out).mono ?_
      rintro e w11 ⟨vp, rfl, hp, b11⟩
      replace hv := hv.below b11
      replace hu := hu.below b11
      replace ht := ht.below b11
      replace b11 := below5 b10 b11
      go_wp2_with fail
      refine (nSame_any _ _ a (Nm.fold a) _ hv hp HNa.out HNF.out).mono ?_
      rintro e w12 ⟨rfl, b12⟩
      rw [HSF.out]
      replace hv := hv.below b12
      replace hu := hu.below b12
      replace ht := ht.below b12
      replace hp := hp.below b12
      replace b12 := below5 b11 b12
      go_wp2_with fail
      go_ret
      exact ⟨rfl, b12⟩
    · have H4 := Lib.hid h4
      have H5 := Lib.hid h5
      have H6 := Lib.hid h6
      clear h4 h5 h6
      go_enter Try.func12, Try.ntmps12
      go_wp2_with fail
      refine (known_any _).mono ?_
      rintro e w1 ⟨rfl, b1⟩
      replace hv := hv.below b1
      replace hu := hu.below b1
      replace ht := ht.below b1
      go_wp2_with fail
      refine (few_any _ a _ hv).mono ?_
      rintro e w2 ⟨rfl, b2⟩
      rw [HFa.out]
      replace hv := hv.below b2
      replace hu := hu.below b2
      replace ht := ht.below b2
      replace b2 := below5 b1 b2
      go_wp2_with fail
      refine (few_any _ c _ hu).mono ?_
      rintro e w3 ⟨rfl, b3⟩
      rw [HFc.out]
      replace hv := hv.below b3
      replace hu := hu.below b3
      replace ht := ht.below b3
      replace b3 := below5 b2 b3
      go_wp2_with fail
      refine (few_any _ d _ ht).mono ?_
      rintro e w4 ⟨rfl, b4⟩
      rw [HFd.out]
      replace hv := hv.below b4
      replace hu := hu.below b4
      replace ht := ht.below b4
      replace b4 := below5 b3 b4
      go_wp2_with fail
      refine (nCompare_any _ _ a c _ hv hu HNa.out HNc.out).mono ?_
      rintro e w5 ⟨rfl, b5⟩
      rw [HX.out]
      replace hv := hv.below b5
      replace hu := hu.below b5
      replace ht := ht.below b5
      replace b5 := below5 b4 b5
      go_wp2_with fail
      refine (nCompare_any _ _ c d _ hu ht HNc.out HNd.out).mono ?_
      rintro e w6 ⟨rfl, b6⟩
      rw [HY.out]
      replace hv := hv.below b6
      replace hu := hu.below b6
      replace ht := ht.below b6
      replace b6 := below5 b5 b6
      go_wp2_with fail
      refine (nUnder_any _ _ a c _ hv hu HNa.out HNc.out).mono ?_
      rintro e w7 ⟨rfl, b7⟩
      rw [H4.out]
      replace hv := hv.below b7
      replace hu := hu.below b7
      replace ht := ht.below b7
      replace b7 := below5 b6 b7
      go_wp2_with fail
      refine (nUnder_any _ _ a c _ hv hu HNa.out HNc.out).mono ?_
      rintro e w8 ⟨rfl, b8⟩
      rw [H4.out]
      replace hv := hv.below b8
      replace hu := hu.below b8
      replace ht := ht.below b8
      replace b8 := below5 b7 b8
      go_wp2_with fail
      refine (nUnder_any _ _ c d _ hu ht HNc.out HNd.out).mono ?_
      rintro e w9 ⟨rfl, b9⟩
      rw [H5.out]
      replace hv := hv.below b9
      replace hu := hu.below b9
      replace ht := ht.below b9
      replace b9 := below5 b8 b9
      go_wp2_with fail
      refine (nUnder_any _ _ a d _ hv ht HNa.out HNd.out).mono ?_
      rintro e w10 ⟨rfl, b10⟩
      rw [H6.out]
      replace hv := hv.below b10
      replace hu := hu.below b10
      replace ht := ht.below b10
      replace b10 := below5 b9 b10
      go_wp2_with fail
      refine (nUnder_any _ _ a [] _ hv (Rd.nil _) HNa.out nb_nil).mono ?_
      rintro e w11 ⟨rfl, b11⟩
      rw [HUN.out]
      replace hv := hv.below b11
      replace hu := hu.below b11
      replace ht := ht.below b11
      replace b11 := below5 b10 b11
      go_wp2_with fail
      refine (nFold_any _ a _ hv HNa.out).mono ?_
      rintro e w12 ⟨vp, rfl, hp, b12⟩
      replace hv := hv.below b12
      replace hu := hu.below b12
      replace ht := ht.below b12
      replace b12 := below5 b11 b12
      go_wp2_with fail
      refine (nSame_any _ _ a (Nm.fold a) _ hv hp HNa.out HNF.out).mono ?_
      rintro e w13 ⟨rfl, b13⟩
      rw [HSF.out]
      replace hv := hv.below b13
      replace hu := hu.below b13
      replace ht := ht.below b13
      replace hp := hp.below b13
      replace b13 := below5 b12 b13
      go_wp2_with fail
      go_ret
      exact ⟨rfl, b13⟩
  · rcases hund with h4 | ⟨h4, h5, h7⟩ | ⟨h4, h5, h6, h7⟩
    · have H4 := Lib.hid h4
      clear h4
      go_enter Try.func12, Try.ntmps12
      go_wp2_with fail
      refine (known_any _).mono ?_
      rintro e w1 ⟨rfl, b1⟩
      replace hv := hv.below b1
      replace hu := hu.below b1
      replace ht := ht.below b1
      go_wp2_with fail
      refine (few_any _ a _ hv).mono ?_
      rintro e w2 ⟨rfl, b2⟩
      rw [HFa.out]
      replace hv := hv.below b2
      replace hu := hu.below b2
      replace ht := ht.below b2
      replace b2 := below5 b1 b2
      go_wp2_with fail
      refine (few_any _ c _ hu).mono ?_
      rintro e w3 ⟨rfl, b3⟩
      rw [HFc.out]
      replace hv := hv.below b3
      replace hu := hu.below b3
      replace ht := ht.below b3
      replace b3 := below5 b2 b3
      go_wp2_with fail
      refine (few_any _ d _ ht).mono ?_
      rintro e w4 ⟨rfl, b4⟩
      rw [HFd.out]
      replace hv := hv.below b4
      replace hu := hu.below b4
      replace ht := ht.below b4
      replace b4 := below5 b3 b4
      go_wp2_with fail
      refine (nCompare_any _ _ a c _ hv hu HNa.out HNc.out).mono ?_
      rintro e w5 ⟨rfl, b5⟩
      rw [HX.out]
      replace hv := hv.below b5
      replace hu := hu.below b5
      replace ht := ht.below b5
      replace b5 := below5 b4 b5
      go_wp2_with fail
      refine (nCompare_any _ _ c d _ hu ht HNc.out HNd.out).mono ?_
      rintro e w6 ⟨rfl, b6⟩
      rw [HY.out]
      replace hv := hv.below b6
      replace hu := hu.below b6
      replace ht := ht.below b6
      replace b6 := below5 b5 b6
      go_wp2_with fail
      refine (nUnder_any _ _ a c _ hv hu HNa.out HNc.out).mono ?_
      rintro e w7 ⟨rfl, b7⟩
      rw [H4.out]
      replace hv := hv.below b7
      replace hu := hu.below b7
      replace ht := ht.below b7
      replace b7 := below5 b6 b7
      go_wp2_with fail
      refine (nUnder_any _ _ a c _ hv hu HNa.out HNc.out).mono ?_
      rintro e w8 ⟨rfl, b8⟩
      rw [H4.out]
      replace hv := hv.below b8
      replace hu := hu.below b8
      replace ht := ht.below b8
      replace b8 := below5 b7 b8
      go_wp2_with fail
      refine (nUnder_any _ _ a [] _ hv (Rd.nil _) HNa.out nb_nil).mono ?_
      rintro e w9 ⟨rfl, b9⟩
      rw [HUN.out]
      replace hv := hv.below b9
      replace hu := hu.below b9
      replace ht := ht.below b9
      replace b9 := below5 b8 b9
      go_wp2_with fail
      refine (nFold_any _ a _ hv HNa.out).mono ?_
      rintro e w10 ⟨vp, rfl, hp, b10⟩
      replace hv := hv.below b10
      replace hu := hu.below b10
      replace ht := ht.below b10
      replace b10 := below5 b9 b10
      go_wp2_with fail
      refine (nSame_any _ _ a (Nm.fold a) _ hv hp HNa.out HNF.out).mono ?_
      rintro e w11 ⟨rfl, b11⟩
      rw [HSF.out]
      replace hv := hv.below b11
      replace hu := hu.below b11
      replace ht := ht.below b11
      replace hp := hp.below b11
      replace b11 := below5 b10 b11
      go_wp2_with fail
      go_ret
      exact ⟨rfl, b11⟩
    · have H4 := Lib.hid h4
      have H5 := Lib.hid h5
      clear h4 h5
      go_enter Try.func12, Try.ntmps12
      go_wp2_with fail
      refine (known_any _).mono ?_
      rintro e w1 ⟨rfl, b1⟩
      replace hv := hv.below b1
      replace hu := hu.below b1
      replace ht := ht.below b1
      go_wp2_with fail
      refine (few_any _ a _ hv).mono ?_
      rintro e w2 ⟨rfl, b2⟩
      rw [HFa.out]
      replace hv := hv.below b2
      replace hu := hu.below b2
      replace ht := ht.below b2
      replace b2 := below5 b1 b2
      go_wp2_with fail
      refine (few_any _ c _ hu).mono ?_
      rintro e w3 ⟨rfl, b3⟩
      rw [HFc.out]
      replace hv := hv.below b3
      replace hu := hu.below b3
      replace ht := ht.below b3
      replace b3 := below5 b2 b3
      go_wp2_with fail
      refine (few_any _ d _ ht).mono ?_
      rintro e w4 ⟨rfl, b4⟩
      rw [HFd.out]
      replace hv := hv.below b4
      replace hu := hu.below b4
      replace ht := ht.below b4
      replace b4 := below5 b3 b4
      go_wp2_with fail
      refine (nCompare_any _ _ a c _ hv hu HNa.out HNc.out).mono ?_
      rintro e w5 ⟨rfl, b5⟩
      rw [HX.out]
      replace hv := hv.below b5
      replace hu := hu.below b5
      replace ht := ht.below b5
      replace b5 := below5 b4 b5
      go_wp2_with fail
      refine (nCompare_any _ _ c d _ hu ht HNc.out HNd.out).mono ?_
      rintro e w6 ⟨rfl, b6⟩
      rw [HY.out]
      replace hv := hv.below b6
      replace hu := hu.below b6
      replace ht := ht.below b6
      replace b6 := below5 b5 b6
      go_wp2_with fail
      refine (nUnder_any _ _ a c _ hv hu HNa.out HNc.out).mono ?_
      rintro e w7 ⟨rfl, b7⟩
      rw [H4.out]
      replace hv := hv.below b7
      replace hu := hu.below b7
      replace ht := ht.below b7
      replace b7 := below5 b6 b7
      go_wp2_with fail
      refine (nUnder_any _ _ a c _ hv hu HNa.out HNc.out).mono ?_
      rintro e w8 ⟨rfl, b8⟩
      rw [H4.out]
      replace hv := hv.below b8
      replace hu := hu.below b8
      replace ht := ht.below b8
      replace b8 := below5 b7 b8
      go_wp2_with fail
      refine (nUnder_any _ _ c d _ hu ht HNc.out HNd.out).mono ?_
      rintro e w9 ⟨rfl, b9⟩
      rw [H5.out]
      replace hv := hv.below b9
      replace hu := hu.below b9
      replace ht := ht.below b9
      replace b9 := below5 b8 b9
      go_wp2_with fail
      refine (nUnder_any _ _ a [] _ hv (Rd.nil _) HNa.out nb_nil).mono ?_
      rintro e w10 ⟨rfl, b10⟩
      rw [HUN.out]
      replace hv := hv.below b10
      replace hu := hu.below b10
      replace ht := ht.below b10
      replace b10 := below5 b9 b10
      go_wp2_with fail
      refine (nFold_any _ a _ hv HNa.out).mono ?_
      rintro e w11 ⟨vp, rfl, hp, b11⟩
      replace hv := hv.below b11
      replace hu := hu.below b11
      replace ht := ht.below b11
      replace b11 := below5 b10 b11
      go_wp2_with fail
      refine (nSame_any _ _ a (Nm.fold a) _ hv hp HNa.out HNF.out).mono ?_
      rintro e w12 ⟨rfl, b12⟩
      rw [HSF.out]
      replace hv := hv.below b12
      replace hu := hu.below b12
      replace ht := ht.below b12
      replace hp := hp.below b12
      replace b12 := below5 b11 b12
      go_wp2_with fail
      go_ret
      exact ⟨rfl, b12⟩
    · have H4 := Lib.hid h4
      have H5 := Lib.hid h5
      have H6 := Lib.hid h6
      clear h4 h5 h6
      go_enter Try.func12, Try.ntmps12
      go_wp2_with fail
      refine (known_any _).mono ?_
      rintro e w1 ⟨rfl, b1⟩
      replace hv := hv.below b1
      replace hu := hu.below b1
      replace ht := ht.below b1
      go_wp2_with fail
      refine (few_any _ a _ hv).mono ?_
      rintro e w2 ⟨rfl, b2⟩
      rw [HFa.out]
      replace hv := hv.below b2
      replace hu := hu.below b2
      replace ht := ht.below b2
      replace b2 := below5 b1 b2
      go_wp2_with fail
      refine (few_any _ c _ hu).mono ?_
      rintro e w3 ⟨rfl, b3⟩
      rw [HFc.out]
      replace hv := hv.below b3
      replace hu := hu.below b3
      replace ht := ht.below b3
      replace b3 := below5 b2 b3
      go_wp2_with fail
      refine (few_any _ d _ ht).mono ?_
      rintro e w4 ⟨rfl, b4⟩
      rw [HFd.out]
      replace hv := hv.below b4
      replace hu := hu.below b4
      replace ht := ht.below b4
      replace b4 := below5 b3 b4
      go_wp2_with fail
      refine (nCompare_any _ _ a c _ hv hu HNa.out HNc.out).mono ?_
      rintro e w5 ⟨rfl, b5⟩
      rw [HX.out]
      replace hv := hv.below b5
      replace hu := hu.below b5
      replace ht := ht.below b5
      replace b5 := below5 b4 b5
      go_wp2_with fail
      refine (nCompare_any _ _ c d _ hu ht HNc.out HNd.out).mono ?_
      rintro e w6 ⟨rfl, b6⟩
      rw [HY.out]
      replace hv := hv.below b6
      replace hu := hu.below b6
      replace ht := ht.below b6
      replace b6 := below5 b5 b6
      go_wp2_with fail
      refine (nUnder_any _ _ a c _ hv hu HNa.out HNc.out).mono ?_
      rintro e w7 ⟨rfl, b7⟩
      rw [H4.out]
      replace hv := hv.below b7
      replace hu := hu.below b7
      replace ht := ht.below b7
      replace b7 := below5 b6 b7
      go_wp2_with fail
      refine (nUnder_any _ _ a c _ hv hu HNa.out HNc.out).mono ?_
      rintro e w8 ⟨rfl, b8⟩
      rw [H4.out]
      replace hv := hv.below b8
      replace hu := hu.below b8
      replace ht := ht.below b8
      replace b8 := below5 b7 b8
      go_wp2_with fail
      refine (nUnder_any _ _ c d _ hu ht HNc.out HNd.out).mono ?_
      rintro e w9 ⟨rfl, b9⟩
      rw [H5.out]
      replace hv := hv.below b9
      replace hu := hu.below b9
      replace ht := ht.below b9
      replace b9 := below5 b8 b9
      go_wp2_with fail
      refine (nUnder_any _ _ a d _ hv ht HNa.out HNd.out).mono ?_
      rintro e w10 ⟨rfl, b10⟩
      rw [H6.out]
      replace hv := hv.below b10
      replace hu := hu.below b10
      replace ht := ht.below b10
      replace b10 := below5 b9 b10
      go_wp2_with fail
      refine (nUnder_any _ _ a [] _ hv (Rd.nil _) HNa.out nb_nil).mono ?_
      rintro e w11 ⟨rfl, b11⟩
      rw [HUN.out]
      replace hv := hv.below b11
      replace hu := hu.below b11
      replace ht := ht.below b11
      replace b11 := below5 b10 b11
      go_wp2_with fail
      refine (nFold_any _ a _ hv HNa.out).mono ?_
      rintro e w12 ⟨vp, rfl, hp, b12⟩
      replace hv := hv.below b12
      replace hu := hu.below b12
      replace ht := ht.below b12
      replace b12 := below5 b11 b12
      go_wp2_with fail
      refine (nSame_any _ _ a (Nm.fold a) _ hv hp HNa.out HNF.out).mono ?_
      rintro e w13 ⟨rfl, b13⟩
      rw [HSF.out]
      replace hv := hv.below b13
      replace hu := hu.below b13
      replace ht := ht.below b13
      replace hp := hp.below b13
      replace b13 := below5 b12 b13
      go_wp2_with fail
      go_ret
      exact ⟨rfl, b13⟩
  · rcases hund with h4 | ⟨h4, h5, h7⟩ | ⟨h4, h5, h6, h7⟩
    · have H4 := Lib.hid h4
      clear h4
      go_enter Try.func12, Try.ntmps12
      go_wp2_with fail
      refine (known_any _).mono ?_
      rintro e w1 ⟨rfl, b1⟩
      replace hv := hv.below b1
      replace hu := hu.below b1
      replace ht := ht.below b1
      go_wp2_with fail
      refine (few_any _ a _ hv).mono ?_
      rintro e w2 ⟨rfl, b2⟩
      rw [HFa.out]
      replace hv := hv.below b2
      replace hu := hu.below b2
      replace ht := ht.below b2
      replace b2 := below5 b1 b2
      go_wp2_with fail
      refine (few_any _ c _ hu).mono ?_
      rintro e w3 ⟨rfl, b3⟩
      rw [HFc.out]
      replace hv := hv.below b3
      replace hu := hu.below b3
      replace ht := ht.below b3
      replace b3 := below5 b2 b3
      go_wp2_with fail
      refine (few_any _ d _ ht).mono ?_
      rintro e w4 ⟨rfl, b4⟩
      rw [HFd.out]
      replace hv := hv.below b4
      replace hu := hu.below b4
      replace ht := ht.below b4
      replace b4 := below5 b3 b4
      go_wp2_with fail
      refine (nCompare_any _ _ a c _ hv hu HNa.out HNc.out).mono ?_
      rintro e w5 ⟨rfl, b5⟩
      rw [HX.out]
      replace hv := hv.below b5
      replace hu := hu.below b5
      replace ht := ht.below b5
      replace b5 := below5 b4 b5
      go_wp2_with fail
      refine (nCompare_any _ _ c d _ hu ht HNc.out HNd.out).mono ?_
      rintro e w6 ⟨rfl, b6⟩
      rw [HY.out]
      replace hv := hv.below b6
      replace hu := hu.below b6
      replace ht := ht.below b6
      replace b6 := below5 b5 b6
      go_wp2_with fail
      refine (nCompare_any _ _ a d _ hv ht HNa.out HNd.out).mono ?_
      rintro e w7 ⟨rfl, b7⟩
      rw [HZ.out]
      replace hv := hv.below b7
      replace hu := hu.below b7
      replace ht := ht.below b7
      replace b7 := below5 b6 b7
      go_wp2_with fail
      refine (nUnder_any _ _ a c _ hv hu HNa.out HNc.out).mono ?_
      rintro e w8 ⟨rfl, b8⟩
      rw [H4.out]
      replace hv := hv.below b8
      replace hu := hu.below b8
      replace ht := ht.below b8
      replace b8 := below5 b7 b8
      go_wp2_with fail
      refine (nUnder_any _ _ a c _ hv hu HNa.out HNc.out).mono ?_
      rintro e w9 ⟨rfl, b9⟩
      rw [H4.out]
      replace hv := hv.below b9
      replace hu := hu.below b9
      replace ht := ht.below b9
      replace b9 := below5 b8 b9
      go_wp2_with fail
      refine (nUnder_any _ _ a [] _ hv (Rd.nil _) HNa.out nb_nil).mono ?_
      rintro e w10 ⟨rfl, b10⟩
      rw [HUN.out]
      replace hv := hv.below b10
      replace hu := hu.below b10
      replace ht := ht.below b10
      replace b10 := below5 b9 b10
      go_wp2_with fail
      refine (nFold_any _ a _ hv HNa.out).mono ?_
      rintro e w11 ⟨vp, rfl, hp, b11⟩
      replace hv := hv.below b11
      replace hu := hu.below b11
      replace ht := ht.below b11
      replace b11 := below5 b10 b11
      go_wp2_with fail
      refine (nSame_any _ _ a (Nm.fold a) _ hv hp HNa.out HNF.out).mono ?_
      rintro e w12 ⟨rfl, b12⟩
      rw [HSF.out]
      replace hv := hv.below b12
      replace hu := hu.below b12
      replace ht := ht.below b12
      replace hp := hp.below b12
      replace b12 := below5 b11 b12
      go_wp2_with fail
      go_ret
      exact ⟨rfl, b12⟩
    · have H4 := Lib.hid h4
      have H5 := Lib.hid h5
      clear h4 h5
      go_enter Try.func12, Try.ntmps12
      go_wp2_with fail
      refine (known_any _).mono ?_
      rintro e w1 ⟨rfl, b1⟩
      replace hv := hv.below b1
      replace hu := hu.below b1
      replace ht := ht.below b1
      go_wp2_with fail
      refine (few_any _ a _ hv).mono ?_
      rintro e w2 ⟨rfl, b2⟩
      rw [HFa.out]
      replace hv := hv.below b2
      replace hu := hu.below b2
      replace ht := ht.below b2
      replace b2 := below5 b1 b2
      go_wp2_with fail
      refine (few_any _ c _ hu).mono ?_
      rintro e w3 ⟨rfl, b3⟩
      rw [HFc.out]
      replace hv := hv.below b3
      replace hu := hu.below b3
      replace ht := ht.below b3
      replace b3 := below5 b2 b3
      go_wp2_with fail
      refine (few_any _ d _ ht).mono ?_
      rintro e w4 ⟨rfl, b4⟩
      rw [HFd.out]
      replace hv := hv.below b4
      replace hu := hu.below b4
      replace ht := ht.below b4
      replace b4 := below5 b3 b4
      go_wp2_with fail
      refine (nCompare_any _ _ a c _ hv hu HNa.out HNc.out).mono ?_
      rintro e w5 ⟨rfl, b5⟩
      rw [HX.out]
      replace hv := hv.below b5
      replace hu := hu.below b5
      replace ht := ht.below b5
      replace b5 := below5 b4 b5
      go_wp2_with fail
      refine (nCompare_any _ _ c d _ hu ht HNc.out HNd.out).mono ?_
      rintro e w6 ⟨rfl, b6⟩
      rw [HY.out]
      replace hv := hv.below b6
      replace hu := hu.below b6
      replace ht := ht.below b6
      replace b6 := below5 b5 b6
      go_wp2_with fail
      refine (nCompare_any _ _ a d _ hv ht HNa.out HNd.out).mono ?_
      rintro e w7 ⟨rfl, b7⟩
      rw [HZ.out]
      replace hv := hv.below b7
      replace hu := hu.below b7
      replace ht := ht.below b7
      replace b7 := below5 b6 b7
      go_wp2_with fail
      refine (nUnder_any _ _ a c _ hv hu HNa.out HNc.out).mono ?_
      rintro e w8 ⟨rfl, b8⟩
      rw [H4.out]
      replace hv := hv.below b8
      replace hu := hu.below b8
      replace ht := ht.below b8
      replace b8 := below5 b7 b8
      go_wp2_with fail
      refine (nUnder_any _ _ a c _ hv hu HNa.out HNc.out).mono ?_
      rintro e w9 ⟨rfl, b9⟩
      rw [H4.out]
      replace hv := hv.below b9
      replace hu := hu.below b9
      replace ht := ht.below b9
      replace b9 := below5 b8 b9
      go_wp2_with fail
      refine (nUnder_any _ _ c d _ hu ht HNc.out HNd.out).mono ?_
      rintro e w10 ⟨rfl, b10⟩
      rw [H5.out]
      replace hv := hv.below b10
      replace hu := hu.below b10
      replace ht := ht.below b10
      replace b10 := below5 b9 b10
      go_wp2_with fail
      refine (nUnder_any _ _ a [] _ hv (Rd.nil _) HNa.out nb_nil).mono ?_
      rintro e w11 ⟨rfl, b11⟩
      rw [HUN.out]
      replace hv := hv.below b11
      replace hu := hu.below b11
      replace ht := ht.below b11
      replace b11 := below5 b10 b11
      go_wp2_with fail
      refine (nFold_any _ a _ hv HNa.out).mono ?_
      rintro e w12 ⟨vp, rfl, hp, b12⟩
      replace hv := hv.below b12
      replace hu := hu.below b12
      replace ht := ht.below b12
      replace b12 := below5 b11 b12
      go_wp2_with fail
      refine (nSame_any _ _ a (Nm.fold a) _ hv hp HNa.out HNF.out).mono ?_
      rintro e w13 ⟨rfl, b13⟩
      rw [HSF.out]
      replace hv := hv.below b13
      replace hu := hu.below b13
      replace ht := ht.below b13
      replace hp := hp.below b13
      replace b13 := below5 b12 b13
      go_wp2_with fail
      go_ret
      exact ⟨rfl, b13⟩
    · have H4 := Lib.hid h4
      have H5 := Lib.hid h5
      have H6 := Lib.hid h6
      clear h4 h5 h6
      go_enter Try.func12, Try.ntmps12
      go_wp2_with fail
      refine (known_any _).mono ?_
      rintro e w1 ⟨rfl, b1⟩
      replace hv := hv.below b1
      replace hu := hu.below b1
      replace ht := ht.below b1
      go_wp2_with fail
      refine (few_any _ a _ hv).mono ?_
      rintro e w2 ⟨rfl, b2⟩
      rw [HFa.out]
      replace hv := hv.below b2
      replace hu := hu.below b2
      replace ht := ht.below b2
      replace b2 := below5 b1 b2
      go_wp2_with fail
      refine (few_any _ c _ hu).mono ?_
      rintro e w3 ⟨rfl, b3⟩
      rw [HFc.out]
      replace hv := hv.below b3
      replace hu := hu.below b3
      replace ht := ht.below b3
      replace b3 := below5 b2 b3
      go_wp2_with fail
      refine (few_any _ d _ ht).mono ?_
      rintro e w4 ⟨rfl, b4⟩
      rw [HFd.out]
      replace hv := hv.below b4
      replace hu := hu.below b4
      replace ht := ht.below b4
      replace b4 := below5 b3 b4
      go_wp2_with fail
      refine (nCompare_any _ _ a c _ hv hu HNa.out HNc.out).mono ?_
      rintro e w5 ⟨rfl, b5⟩
      rw [HX.out]
      replace hv := hv.below b5
      replace hu := hu.below b5
      replace ht := ht.below b5
      replace b5 := below5 b4 b5
      go_wp2_with fail
      refine (nCompare_any _ _ c d _ hu ht HNc.out HNd.out).mono ?_
      rintro e w6 ⟨rfl, b6⟩
      rw [HY.out]
      replace hv := hv.below b6
      replace hu := hu.below b6
      replace ht := ht.below b6
      replace b6 := below5 b5 b6
      go_wp2_with fail
      refine (nCompare_any _ _ a d _ hv ht HNa.out HNd.out).mono ?_
      rintro e w7 ⟨rfl, b7⟩
      rw [HZ.out]
      replace hv := hv.below b7
      replace hu := hu.below b7
      replace ht := ht.below b7
      replace b7 := below5 b6 b7
      go_wp2_with fail
      refine (nUnder_any _ _ a c _ hv hu HNa.out HNc.out).mono ?_
      rintro e w8 ⟨rfl, b8⟩
      rw [H4.out]
      replace hv := hv.below b8
      replace hu := hu.below b8
      replace ht := ht.below b8
      replace b8 := below5 b7 b8
      go_wp2_with fail
      refine (nUnder_any _ _ a c _ hv hu HNa.out HNc.out).mono ?_
      rintro e w9 ⟨rfl, b9⟩
      rw [H4.out]
      replace hv := hv.below b9
      replace hu := hu.below b9
      replace ht := ht.below b9
      replace b9 := below5 b8 b9
      go_wp2_with fail
      refine (nUnder_any _ _ c d _ hu ht HNc.out HNd.out).mono ?_
      rintro e w10 ⟨rfl, b10⟩
      rw [H5.out]
      replace hv := hv.below b10
      replace hu := hu.below b10
      replace ht := ht.below b10
      replace b10 := below5 b9 b10
      go_wp2_with fail
      refine (nUnder_any _ _ a d _ hv ht HNa.out HNd.out).mono ?_
      rintro e w11 ⟨rfl, b11⟩
      rw [H6.out]
      replace hv := hv.below b11
      replace hu := hu.below b11
      replace ht := ht.below b11
      replace b11 := below5 b10 b11
      go_wp2_with fail
      refine (nUnder_any _ _ a [] _ hv (Rd.nil _) HNa.out nb_nil).mono ?_
      rintro e w12 ⟨rfl, b12⟩
      rw [HUN.out]
      replace hv := hv.below b12
      replace hu := hu.below b12
      replace ht := ht.below b12
      replace b12 := below5 b11 b12
      go_wp2_with fail
      refine (nFold_any _ a _ hv HNa.out).mono ?_
      rintro e w13 ⟨vp, rfl, hp, b13⟩
      replace hv := hv.below b13
      replace hu := hu.below b13
      replace ht := ht.below b13
      replace b13 := below5 b12 b13
      go_wp2_with fail
      refine (nSame_any _ _ a (Nm.fold a) _ hv hp HNa.out HNF.out).mono ?_
      rintro e w14 ⟨rfl, b14⟩
      rw [HSF.out]
      replace hv := hv.below b14
      replace hu := hu.below b14
      replace ht := ht.below b14
      replace hp := hp.below b14
      replace b14 := below5 b13 b14
      go_wp2_with fail
      go_ret
      exact ⟨rfl, b14⟩
end Go.Proofs.Ytikibmeopndncaa
