/- The walk of RecCanon. -/
import Derived.Test.YtbgbahllhjelgaaGreatDoorKReA
import Derived.Test.YtbgbahllhjelgaaGreatDoorKSgA
namespace Go.Proofs.YtbgbahllhjelgaaGreatDoor
open Go.RowKit Go.Shelf Go.Sort
set_option maxRecDepth 100000
namespace Rc
theorem put_len (x : PRec) : ∀ L : List PRec, (put x L).length <= L.length + 1
 | [] => by simp [put]
 | y :: L => by
  have ih := put_len x L
  unfold put
  split
  ·simp only [List.length_cons]; omega
  ·split <;> simp
theorem canon_len (l : List PRec) : (canon l).length <= l.length := by
 rw [canon_eq]
 suffices H : ∀ (l L : List PRec), (l.foldl (fun c x => put x c) L).length <= L.length + l.length from by have h := H l []; unfold refCanon; simpa using h
 intro l
 induction l with
 | nil => intro L; simp
 | cons x l ih =>
  intro L
  have h1 := ih (put x L)
  have h2 := put_len x L
  simp only [List.foldl_cons, List.length_cons]
  omega
end Rc
theorem canon_len60 (L : List Rc.PRec) (h : L.length <= 60) : (Rc.canon L).length <= 60 := Nat.le_trans (Rc.canon_len L) h
theorem up_len {w w' : World} (hb : Below w.heap.size w w') (l : List (El w)) : (l.map (El.up hb)).length = l.length := List.length_map _
set_option maxHeartbeats 8000000 in
theorem walkRecCanon (v0 : Value) (l0 : List RP) (w : World) (h0 : RecsRd v0 l0 w /\ ∀ x ∈ l0, RN x.2) (ht : Tab w) :
  Calls Tryz.prog 4 #[v0] w (TrE w) := by
 obtain ⟨h0, hrn⟩ := h0
 obtain ⟨o1, c1, rfl, rb1, rb2⟩ := h0.shape
 have HV := Lib.hid h0
 have HRN := Lib.hid hrn
 have HT := Lib.hid ht
 clear h0 hrn ht
 refine (callsIn_wide (n := 0)).1 ?_
 refine callsIn_of_wp Tryz.func4 rfl trivial ?_ rfl
 simp only [Tryz.ntmps4, List.size_toArray, List.length_cons, List.length_nil, Nat.reduceAdd, Nat.reduceSub, Array.replicate_succ, Array.replicate_zero, List.push_toArray, List.append_toArray, List.nil_append, List.cons_append]
 gi_wp2_with fail
 refine (callsIn_wide.2 (known5_any _ HT.out)).mono ?_
 rintro e w1 ⟨rfl, b1⟩
 have HF := Lib.hid (few5_any _ l0 w1 (HV.out.kept b1))
 have HB1 := Lib.hid b1
 clear b1
 gi_wp2_with fail
 refine (callsIn_wide.2 HF.out).mono ?_
 rintro e w3 ⟨b, rfl, hq, b2⟩
 have HB3 := Lib.hid (below5 HB1.out b2)
 have HQ := Lib.hid hq
 clear HF b2 hq
 cases b with
 | false =>
  gi_wp2_with fail
  go_ret
  exact ⟨rfl, HB3.out⟩
 | true =>
 obtain ⟨L, hL, hL60, hLl⟩ := els_of (HV.out.kept HB3.out) (HQ.out rfl) HRN.out
 have VL : Hid (RecsRd (.slice o1 l0.length c1) (L.map (·.1)) w3) := by show RecsRd _ _ _; rw [hL]; exact HV.out.kept HB3.out
 obtain ⟨PL, hPL⟩ : ∃ p, plE L = p := ⟨_, rfl⟩
 have EL := Lib.hid hPL
 have nP : PL.length <= 60 := by rw [<- hPL, plE_len]; exact hL60
 clear hL HQ HB1 hLl hPL
 have B3_3 := Lib.hid (Below.refl w3.heap.size w3)
 have NL : Hid (L.length <= 60) := hL60
 gi_wp2_with fail
 refine (callsIn_wide.2 (ofAll_any (.slice o1 l0.length c1) L B3_3.out (VL.out.kept B3_3.out) (by have := NL.out; omega))).mono ?_
 rintro e w4 ⟨v, lwas, rfl, hv, hp, b4⟩
 obtain ⟨owas, cwas, rfl⟩ : ∃ o cap, v = .slice o lwas.length cap := by obtain ⟨_, o, cap, h, _⟩ := hv; exact ⟨o, cap, by rw [h, List.length_map]⟩
 rw [EL.out] at hp
 have VWAS := Lib.hid hv
 have EWAS := Lib.hid hp
 have NWAS : Hid (lwas.length <= 60) := by show _ <= _; have := plE_len lwas; rw [hp] at this; have := canon_len60 PL nP; omega
 clear hv hp
 have B3_4 := Lib.hid (below5 B3_3.out b4)
 clear b4
 have B4_4 := Lib.hid (Below.refl w4.heap.size w4)
 gi_wp2_with fail
 refine (callsIn_wide.2 (canon2_any B3_4.out (.slice o1 l0.length c1) L (VL.out.kept B3_4.out) (by have := NL.out; omega))).mono ?_
 rintro e w5 ⟨oc, cc, lc, rfl, hv, hp, _, b5⟩
 rw [EL.out] at hp
 have VC := Lib.hid hv
 have EC := Lib.hid hp
 have NC : Hid (lc.length <= 60) := by show _ <= _; have := plE_len lc; rw [hp] at this; have := canon_len60 PL nP; omega
 clear hv hp
 have B3_5 := Lib.hid (below5 B3_4.out b5)
 have B4_5 := Lib.hid (below5 B4_4.out b5)
 clear b5
 have B5_5 := Lib.hid (Below.refl w5.heap.size w5)
 gi_wp2_with fail
 refine (callsIn_wide.2 (canon2_any B4_5.out (.slice oc lc.length cc) lc (VC.out.kept B5_5.out) (by have := NC.out; omega))).mono ?_
 rintro e w6 ⟨od, cd, ld, rfl, hv, hp, _, b6⟩
 rw [EC.out, Rc.canon_twice] at hp
 have VD := Lib.hid hv
 have ED := Lib.hid hp
 have ND : Hid (ld.length <= 60) := by show _ <= _; have := plE_len ld; rw [hp] at this; have := canon_len60 PL nP; omega
 clear hv hp
 have B3_6 := Lib.hid (below5 B3_5.out b6)
 have B4_6 := Lib.hid (below5 B4_5.out b6)
 have B5_6 := Lib.hid (below5 B5_5.out b6)
 clear b6
 have B6_6 := Lib.hid (Below.refl w6.heap.size w6)
 gi_wp2_with fail
 refine (callsIn_wide.2 (ofAll_any (.slice oc lc.length cc) lc B4_6.out (VC.out.kept B5_6.out) (by have := NC.out; omega))).mono ?_
 rintro e w7 ⟨v, lk, rfl, hv, hp, b7⟩
 obtain ⟨ok, ck, rfl⟩ : ∃ o cap, v = .slice o lk.length cap := by obtain ⟨_, o, cap, h, _⟩ := hv; exact ⟨o, cap, by rw [h, List.length_map]⟩
 rw [EC.out] at hp
 have VK := Lib.hid hv
 have EK := Lib.hid hp
 have NK : Hid (lk.length <= 60) := by show _ <= _; have := plE_len lk; rw [hp] at this; have := canon_len60 PL nP; omega
 clear hv hp
 have B3_7 := Lib.hid (below5 B3_6.out b7)
 have B4_7 := Lib.hid (below5 B4_6.out b7)
 have B5_7 := Lib.hid (below5 B5_6.out b7)
 have B6_7 := Lib.hid (below5 B6_6.out b7)
 clear b7
 have B7_7 := Lib.hid (Below.refl w7.heap.size w7)
 gi_wp2_with fail
 refine (callsIn_wide.2 (refCanon_any (.slice owas lwas.length cwas) lwas B4_7.out (VWAS.out.kept B4_7.out) (by have := NWAS.out; omega))).mono ?_
 rintro e w8 ⟨lr, v, hp, _, rfl, hv, b8⟩
 obtain ⟨or, cr, rfl⟩ : ∃ o cap, v = .slice o lr.length cap := by obtain ⟨_, o, cap, h, _⟩ := hv; exact ⟨o, cap, by rw [h, List.length_map]⟩
 rw [EWAS.out] at hp
 have VR := Lib.hid hv
 have ER := Lib.hid hp
 have NR : Hid (lr.length <= 60) := by show _ <= _; have := plE_len lr; rw [hp] at this; have := canon_len60 PL nP; omega
 clear hv hp
 have B3_8 := Lib.hid (below5 B3_7.out b8)
 have B4_8 := Lib.hid (below5 B4_7.out b8)
 have B5_8 := Lib.hid (below5 B5_7.out b8)
 have B6_8 := Lib.hid (below5 B6_7.out b8)
 have B7_8 := Lib.hid (below5 B7_7.out b8)
 clear b8
 have B8_8 := Lib.hid (Below.refl w8.heap.size w8)
 gi_wp2_with fail
 refine (callsIn_wide.2 (is5_any (w := w7) (.slice ok lk.length ck) (.slice or lr.length cr) lk (lr.map (El.up B4_7.out)) B7_8.out (VK.out.kept B7_8.out) (by rw [up_fst]; exact (VR.out.kept B8_8.out)) (by rw [EK.out, up_pl, ER.out]) (by have := NK.out; first | omega | (rw [up_len]; omega)))).mono ?_
 rintro e w9 ⟨rfl, b9⟩
 have B3_9 := Lib.hid (below5 B3_8.out b9)
 have B4_9 := Lib.hid (below5 B4_8.out b9)
 have B5_9 := Lib.hid (below5 B5_8.out b9)
 have B6_9 := Lib.hid (below5 B6_8.out b9)
 have B7_9 := Lib.hid (below5 B7_8.out b9)
 have B8_9 := Lib.hid (below5 B8_8.out b9)
 clear b9
 have B9_9 := Lib.hid (Below.refl w9.heap.size w9)
 gi_wp2_with fail
 refine (callsIn_wide.2 (ofAll_any (.slice od ld.length cd) ld B5_9.out (VD.out.kept B6_9.out) (by have := ND.out; omega))).mono ?_
 rintro e w10 ⟨v, lm, rfl, hv, hp, b10⟩
 obtain ⟨om, cm, rfl⟩ : ∃ o cap, v = .slice o lm.length cap := by obtain ⟨_, o, cap, h, _⟩ := hv; exact ⟨o, cap, by rw [h, List.length_map]⟩
 rw [ED.out] at hp
 have VM := Lib.hid hv
 have EM := Lib.hid hp
 have NM : Hid (lm.length <= 60) := by show _ <= _; have := plE_len lm; rw [hp] at this; have := canon_len60 PL nP; omega
 clear hv hp
 have B3_10 := Lib.hid (below5 B3_9.out b10)
 have B4_10 := Lib.hid (below5 B4_9.out b10)
 have B5_10 := Lib.hid (below5 B5_9.out b10)
 have B6_10 := Lib.hid (below5 B6_9.out b10)
 have B7_10 := Lib.hid (below5 B7_9.out b10)
 have B8_10 := Lib.hid (below5 B8_9.out b10)
 have B9_10 := Lib.hid (below5 B9_9.out b10)
 clear b10
 have B10_10 := Lib.hid (Below.refl w10.heap.size w10)
 gi_wp2_with fail
 refine (callsIn_wide.2 (ofAll_any (.slice oc lc.length cc) lc B4_10.out (VC.out.kept B5_10.out) (by have := NC.out; omega))).mono ?_
 rintro e w11 ⟨v, ln, rfl, hv, hp, b11⟩
 obtain ⟨on, cn, rfl⟩ : ∃ o cap, v = .slice o ln.length cap := by obtain ⟨_, o, cap, h, _⟩ := hv; exact ⟨o, cap, by rw [h, List.length_map]⟩
 rw [EC.out] at hp
 have VN := Lib.hid hv
 have EN := Lib.hid hp
 have NN : Hid (ln.length <= 60) := by show _ <= _; have := plE_len ln; rw [hp] at this; have := canon_len60 PL nP; omega
 clear hv hp
 have B3_11 := Lib.hid (below5 B3_10.out b11)
 have B4_11 := Lib.hid (below5 B4_10.out b11)
 have B5_11 := Lib.hid (below5 B5_10.out b11)
 have B6_11 := Lib.hid (below5 B6_10.out b11)
 have B7_11 := Lib.hid (below5 B7_10.out b11)
 have B8_11 := Lib.hid (below5 B8_10.out b11)
 have B9_11 := Lib.hid (below5 B9_10.out b11)
 have B10_11 := Lib.hid (below5 B10_10.out b11)
 clear b11
 have B11_11 := Lib.hid (Below.refl w11.heap.size w11)
 gi_wp2_with fail
 refine (callsIn_wide.2 (is5_any (w := w11) (.slice om lm.length cm) (.slice on ln.length cn) (lm.map (El.up B10_11.out)) ln B11_11.out (by rw [up_fst]; exact (VM.out.kept B10_11.out)) (VN.out.kept B11_11.out) (by rw [up_pl, EM.out, EN.out]) (by have := NM.out; first | omega | (rw [up_len]; omega)))).mono ?_
 rintro e w12 ⟨rfl, b12⟩
 have B3_12 := Lib.hid (below5 B3_11.out b12)
 have B4_12 := Lib.hid (below5 B4_11.out b12)
 have B5_12 := Lib.hid (below5 B5_11.out b12)
 have B6_12 := Lib.hid (below5 B6_11.out b12)
 have B7_12 := Lib.hid (below5 B7_11.out b12)
 have B8_12 := Lib.hid (below5 B8_11.out b12)
 have B9_12 := Lib.hid (below5 B9_11.out b12)
 have B10_12 := Lib.hid (below5 B10_11.out b12)
 have B11_12 := Lib.hid (below5 B11_11.out b12)
 clear b12
 have B12_12 := Lib.hid (Below.refl w12.heap.size w12)
 gi_wp2_with fail
 refine (callsIn_wide.2 (ofAll_any (.slice o1 l0.length c1) L B3_12.out (VL.out.kept B3_12.out) (by have := NL.out; omega))).mono ?_
 rintro e w13 ⟨v, lq, rfl, hv, hp, b13⟩
 obtain ⟨oq, cq, rfl⟩ : ∃ o cap, v = .slice o lq.length cap := by obtain ⟨_, o, cap, h, _⟩ := hv; exact ⟨o, cap, by rw [h, List.length_map]⟩
 rw [EL.out] at hp
 have VQ := Lib.hid hv
 have EQ := Lib.hid hp
 have NQ : Hid (lq.length <= 60) := by show _ <= _; have := plE_len lq; rw [hp] at this; have := canon_len60 PL nP; omega
 clear hv hp
 have B3_13 := Lib.hid (below5 B3_12.out b13)
 have B4_13 := Lib.hid (below5 B4_12.out b13)
 have B5_13 := Lib.hid (below5 B5_12.out b13)
 have B6_13 := Lib.hid (below5 B6_12.out b13)
 have B7_13 := Lib.hid (below5 B7_12.out b13)
 have B8_13 := Lib.hid (below5 B8_12.out b13)
 have B9_13 := Lib.hid (below5 B9_12.out b13)
 have B10_13 := Lib.hid (below5 B10_12.out b13)
 have B11_13 := Lib.hid (below5 B11_12.out b13)
 have B12_13 := Lib.hid (below5 B12_12.out b13)
 clear b13
 have B13_13 := Lib.hid (Below.refl w13.heap.size w13)
 gi_wp2_with fail
 refine (callsIn_wide.2 (is5_any (w := w13) (.slice oq lq.length cq) (.slice owas lwas.length cwas) lq (lwas.map (El.up B4_13.out)) B13_13.out (VQ.out.kept B13_13.out) (by rw [up_fst]; exact (VWAS.out.kept B4_13.out)) (by rw [EQ.out, up_pl, EWAS.out]) (by have := NQ.out; first | omega | (rw [up_len]; omega)))).mono ?_
 rintro e w14 ⟨rfl, b14⟩
 have B3_14 := Lib.hid (below5 B3_13.out b14)
 have B4_14 := Lib.hid (below5 B4_13.out b14)
 have B5_14 := Lib.hid (below5 B5_13.out b14)
 have B6_14 := Lib.hid (below5 B6_13.out b14)
 have B7_14 := Lib.hid (below5 B7_13.out b14)
 have B8_14 := Lib.hid (below5 B8_13.out b14)
 have B9_14 := Lib.hid (below5 B9_13.out b14)
 have B10_14 := Lib.hid (below5 B10_13.out b14)
 have B11_14 := Lib.hid (below5 B11_13.out b14)
 have B12_14 := Lib.hid (below5 B12_13.out b14)
 have B13_14 := Lib.hid (below5 B13_13.out b14)
 clear b14
 have B14_14 := Lib.hid (Below.refl w14.heap.size w14)
 gi_wp2_with fail
 obtain ⟨bs, hbs⟩ : ∃ b, Rc.sameRow PL (Rc.canon PL) = b := ⟨_, rfl⟩
 have HBS := Lib.hid hbs
 clear hbs
 have HS15 := Lib.hid (sameRow2_any (w := w5) B5_14.out (.slice oc lc.length cc) (.slice od ld.length cd) (lc.map (El.up B4_5.out)) ld (by rw [up_fst]; exact (VC.out.kept B5_14.out)) (VD.out.kept B6_14.out) (by have := NC.out; first | omega | (rw [up_len]; omega)) (by have := ND.out; first | omega | (rw [up_len]; omega)))
 rw [up_pl, EC.out, ED.out, Rc.sameRow_refl] at HS15
 refine (callsIn_wide.2 HS15.out).mono ?_
 rintro e w15 ⟨rfl, b15⟩
 clear HS15
 have B3_15 := Lib.hid (below5 B3_14.out b15)
 have B4_15 := Lib.hid (below5 B4_14.out b15)
 have B5_15 := Lib.hid (below5 B5_14.out b15)
 have B6_15 := Lib.hid (below5 B6_14.out b15)
 have B7_15 := Lib.hid (below5 B7_14.out b15)
 have B8_15 := Lib.hid (below5 B8_14.out b15)
 have B9_15 := Lib.hid (below5 B9_14.out b15)
 have B10_15 := Lib.hid (below5 B10_14.out b15)
 have B11_15 := Lib.hid (below5 B11_14.out b15)
 have B12_15 := Lib.hid (below5 B12_14.out b15)
 have B13_15 := Lib.hid (below5 B13_14.out b15)
 have B14_15 := Lib.hid (below5 B14_14.out b15)
 clear b15
 have B15_15 := Lib.hid (Below.refl w15.heap.size w15)
 gi_wp2_with fail
 have HS16 := Lib.hid (sameRow2_any (w := w4) B4_15.out (.slice o1 l0.length c1) (.slice oc lc.length cc) (L.map (El.up B3_4.out)) lc (by rw [up_fst]; exact (VL.out.kept B3_15.out)) (VC.out.kept B5_15.out) (by have := NL.out; first | omega | (rw [up_len]; omega)) (by have := NC.out; first | omega | (rw [up_len]; omega)))
 rw [up_pl, EL.out, EC.out, HBS.out] at HS16
 refine (callsIn_wide.2 HS16.out).mono ?_
 rintro e w16 ⟨rfl, b16⟩
 clear HS16
 have B3_16 := Lib.hid (below5 B3_15.out b16)
 have B4_16 := Lib.hid (below5 B4_15.out b16)
 have B5_16 := Lib.hid (below5 B5_15.out b16)
 have B6_16 := Lib.hid (below5 B6_15.out b16)
 have B7_16 := Lib.hid (below5 B7_15.out b16)
 have B8_16 := Lib.hid (below5 B8_15.out b16)
 have B9_16 := Lib.hid (below5 B9_15.out b16)
 have B10_16 := Lib.hid (below5 B10_15.out b16)
 have B11_16 := Lib.hid (below5 B11_15.out b16)
 have B12_16 := Lib.hid (below5 B12_15.out b16)
 have B13_16 := Lib.hid (below5 B13_15.out b16)
 have B14_16 := Lib.hid (below5 B14_15.out b16)
 have B15_16 := Lib.hid (below5 B15_15.out b16)
 clear b16
 have B16_16 := Lib.hid (Below.refl w16.heap.size w16)
 gi_wp2_with fail
 refine (callsIn_wide.2 (ofAll_any (.slice oc lc.length cc) lc B4_16.out (VC.out.kept B5_16.out) (by have := NC.out; omega))).mono ?_
 rintro e w17 ⟨v, lx, rfl, hv, hp, b17⟩
 obtain ⟨ox, cx, rfl⟩ : ∃ o cap, v = .slice o lx.length cap := by obtain ⟨_, o, cap, h, _⟩ := hv; exact ⟨o, cap, by rw [h, List.length_map]⟩
 rw [EC.out] at hp
 have VX := Lib.hid hv
 have EX := Lib.hid hp
 have NX : Hid (lx.length <= 60) := by show _ <= _; have := plE_len lx; rw [hp] at this; have := canon_len60 PL nP; omega
 clear hv hp
 have B3_17 := Lib.hid (below5 B3_16.out b17)
 have B4_17 := Lib.hid (below5 B4_16.out b17)
 have B5_17 := Lib.hid (below5 B5_16.out b17)
 have B6_17 := Lib.hid (below5 B6_16.out b17)
 have B7_17 := Lib.hid (below5 B7_16.out b17)
 have B8_17 := Lib.hid (below5 B8_16.out b17)
 have B9_17 := Lib.hid (below5 B9_16.out b17)
 have B10_17 := Lib.hid (below5 B10_16.out b17)
 have B11_17 := Lib.hid (below5 B11_16.out b17)
 have B12_17 := Lib.hid (below5 B12_16.out b17)
 have B13_17 := Lib.hid (below5 B13_16.out b17)
 have B14_17 := Lib.hid (below5 B14_16.out b17)
 have B15_17 := Lib.hid (below5 B15_16.out b17)
 have B16_17 := Lib.hid (below5 B16_16.out b17)
 clear b17
 have B17_17 := Lib.hid (Below.refl w17.heap.size w17)
 gi_wp2_with fail
 have HS18 := Lib.hid (refSameRow_any (w := w17) (.slice owas lwas.length cwas) (.slice ox lx.length cx) (lwas.map (El.up B4_17.out)) lx B17_17.out (by rw [up_fst]; exact (VWAS.out.kept B4_17.out)) (VX.out.kept B17_17.out) (by have := NWAS.out; first | omega | (rw [up_len]; omega)))
 rw [up_pl, EWAS.out, EX.out, HBS.out] at HS18
 refine (callsIn_wide.2 HS18.out).mono ?_
 rintro e w18 ⟨rfl, b18⟩
 clear HS18
 have B3_18 := Lib.hid (below5 B3_17.out b18)
 have B4_18 := Lib.hid (below5 B4_17.out b18)
 have B5_18 := Lib.hid (below5 B5_17.out b18)
 have B6_18 := Lib.hid (below5 B6_17.out b18)
 have B7_18 := Lib.hid (below5 B7_17.out b18)
 have B8_18 := Lib.hid (below5 B8_17.out b18)
 have B9_18 := Lib.hid (below5 B9_17.out b18)
 have B10_18 := Lib.hid (below5 B10_17.out b18)
 have B11_18 := Lib.hid (below5 B11_17.out b18)
 have B12_18 := Lib.hid (below5 B12_17.out b18)
 have B13_18 := Lib.hid (below5 B13_17.out b18)
 have B14_18 := Lib.hid (below5 B14_17.out b18)
 have B15_18 := Lib.hid (below5 B15_17.out b18)
 have B16_18 := Lib.hid (below5 B16_17.out b18)
 have B17_18 := Lib.hid (below5 B17_17.out b18)
 clear b18
 have B18_18 := Lib.hid (Below.refl w18.heap.size w18)
 gi_wp2_with fail
 cases bs <;> gi_wp2_with fail
 all_goals go_ret
 all_goals exact ⟨rfl, below5 HB3.out B3_18.out⟩
end Go.Proofs.YtbgbahllhjelgaaGreatDoor
