/- CheckZone: the walk. -/
import Derived.Test.YtneghhbclefmoaaGreatKCkJ
namespace Go.Proofs.YtneghhbclefmoaaGreat
open Go.RowKit Go.Shelf Go.Sort
set_option maxRecDepth 100000
set_option maxHeartbeats 8000000 in
theorem walkCheckZone (v0 : Value) (l0 : List (List UInt8)) (v1 : Value) (l1 : List RP) (w : World) (h0 : Rd v0 l0 w) (h1 : RecsRd v1 l1 w /\ ∀ x ∈ l1, RN x.2) :
  Calls Tryz.prog 6 #[v0, v1] w (TrZ w) := by
 obtain ⟨h1, hrn⟩ := h1
 obtain ⟨oo, co, rfl, _, _⟩ := h0.form
 obtain ⟨ov, cv, rfl⟩ : ∃ o cap, v1 = .slice o l1.length cap := by obtain ⟨_, o, cap, h, _⟩ := h1; exact ⟨o, cap, h⟩
 have HO := Lib.hid h0
 have HV := Lib.hid h1
 have HRN := Lib.hid hrn
 clear h0 h1 hrn
 refine (callsIn_wide (n := 0)).1 ?_
 refine callsIn_of_wp Tryz.func6 rfl trivial ?_ rfl
 simp only [Tryz.ntmps6, List.size_toArray, List.length_cons, List.length_nil, Nat.reduceAdd, Nat.reduceSub, Array.replicate_succ, Array.replicate_zero, List.push_toArray, List.append_toArray, List.nil_append, List.cons_append]
 gi_wp2_with fail
 refine (callsIn_wide.2 (known13_any _)).mono ?_
 rintro e w1 ⟨rfl, b1⟩
 have HG := Lib.hid (good12_any _ _ l0 l1 w1 (HO.out.below b1) (HV.out.kept b1))
 have HB1 := Lib.hid b1
 clear b1
 gi_wp2_with fail
 refine (callsIn_wide.2 HG.out).mono ?_
 rintro e w2 ⟨b, rfl, hq, b2⟩
 have HB2 := Lib.hid (below5 HB1.out b2)
 have HQ := Lib.hid hq
 clear HG b2 hq HB1
 cases b with
 | false =>
  gi_wp2_with fail
  go_ret
  exact ⟨rfl, HB2.out⟩
 | true =>
 obtain ⟨hgo, hrf⟩ := HQ.out rfl
 obtain ⟨nbo, lo140, _, _⟩ := Nm.good2_parts hgo
 have HRF := Lib.hid hrf
 have NBO := Lib.hid nbo
 have hrk := HV.out.kept HB2.out
 obtain ⟨l, hL, hL60, hLl⟩ := els_of hrk HRF.out HRN.out
 have hrec : RecsRd (.slice ov l1.length cv) (l.map (·.1)) w2 := by rw [hL]; exact hrk
 have HNW := Lib.hid (zNew_any oo l0.length co _ l hrec (by omega))
 have HRC := Lib.hid hrec
 clear hgo hrf nbo HQ hrk hrec hL HRF
 gi_wp2_with fail
 refine (callsIn_wide.2 HNW.out).mono ?_
 rintro e w4 ⟨v6, l6, rfl, r6, p6, n6, b4⟩
 obtain ⟨o6, c6, rfl⟩ : ∃ o cap, v6 = .slice o l6.length cap := by obtain ⟨_, o, cap, h, _⟩ := r6; exact ⟨o, cap, by rw [h, List.length_map]⟩
 have HCZ := Lib.hid (ckZone_any (w := w4) (.slice oo l0.length co) (.slice o6 l6.length c6) (l6.map (El.up b4)) l0 (by rw [up_fst]; exact r6) (by rw [List.length_map]; omega) (HO.out.below (below5 HB2.out b4)) NBO.out)
 rw [up_pl, p6] at HCZ
 have HB4 := Lib.hid b4
 clear HNW r6 p6 b4
 gi_wp2_with fail
 refine (callsIn_wide.2 HCZ.out).mono ?_
 rintro e w5 ⟨va, fa, rfl, ga, hofa, nfa, b5⟩
 obtain ⟨oa, ca, rfl, _, _⟩ := ga.form
 rw [List.length_map] at ga ⊢
 have HFA := Lib.hid ga
 have HOFA := Lib.hid hofa
 have HB5 := Lib.hid b5
 have HOA := Lib.hid (ofAll_any (w0 := w5) _ l (below5 HB4.out b5) (HRC.out.kept (below5 HB4.out b5)) (by omega))
 clear HCZ ga hofa b5
 gi_wp2_with fail
 refine (callsIn_wide.2 HOA.out).mono ?_
 rintro e w6 ⟨v7, l7, rfl, r7, p7, b6⟩
 have hl7 : l7.length = l.length := by have := congrArg List.length p7; rwa [plE_len, plE_len] at this
 have HRW := Lib.hid (rNew_any (w0 := w6) oo l0.length co _ l7 (Below.refl _ _) r7 (by omega))
 have HP7 := Lib.hid p7
 have HB6 := Lib.hid b6
 clear HOA r7 p7 b6
 gi_wp2_with fail
 refine (callsIn_wide.2 HRW.out).mono ?_
 rintro e w7 ⟨l8, v8, p8, n8, rfl, r8, b7⟩
 have HRK := Lib.hid (rCheck_any (w := w7) (.slice oo l0.length co) v8 (l8.map (El.up b7)) l0 (by rw [up_fst]; exact r8) (by rw [List.length_map]; omega) (HO.out.below (below5 HB2.out (below5 HB4.out (below5 HB5.out (below5 HB6.out b7))))) NBO.out)
 rw [up_pl, p8, HP7.out] at HRK
 have HB7 := Lib.hid b7
 clear HRW r8 p8 b7
 gi_wp2_with fail
 refine (callsIn_wide.2 HRK.out).mono ?_
 rintro e w8 ⟨vb, fb, rfl, gb, hofb, nfb, b8⟩
 have HB58 := Lib.hid (below5 HB6.out (below5 HB7.out b8))
 have HSA := Lib.hid (ckSame_any (w1 := w4) (w2 := w7) (w0 := w8) _ vb fa fb (HFA.out.below HB58.out) gb (below5 HB5.out HB58.out) b8 (HOFA.out.same hofb) nfa)
 have HB8 := Lib.hid (below5 HB2.out (below5 HB4.out (below5 HB5.out HB58.out)))
 clear HRK gb hofb b8
 gi_wp2_with fail
 refine (callsIn_wide.2 HSA.out).mono ?_
 rintro e w9 ⟨rfl, b9⟩
 have HB9 := Lib.hid (below5 HB8.out b9)
 clear HSA b9
 gi_wp2_with fail
 go_ret
 exact ⟨rfl, HB9.out⟩
end Go.Proofs.YtneghhbclefmoaaGreat
