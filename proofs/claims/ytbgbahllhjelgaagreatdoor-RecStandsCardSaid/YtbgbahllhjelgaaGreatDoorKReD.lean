/- The walk of RecMerge. -/
import Derived.Test.YtbgbahllhjelgaaGreatDoorKReC
namespace Go.Proofs.YtbgbahllhjelgaaGreatDoor
open Go.RowKit Go.Shelf Go.Sort
set_option maxRecDepth 100000
def CanW (w w0 : World) (L : List Rc.PRec) (e : Ending) (w' : World) : Prop :=
 ∃ o c l', e = .returned (.slice o (l' : List (El w)).length c) /\ RecsRd (.slice o l'.length c) (l'.map (·.1)) w' /\ plE l' = Rc.canon L /\ l'.length <= L.length /\ Below w0.heap.size w0 w'
theorem canon3_any {w w0 : World} (hb : Below w.heap.size w w0) (v : Value) (l : List (El w)) (hv : RecsRd v (l.map (·.1)) w0) (hn : l.length <= 1000) :
  Calls Tryz.prog 19 #[v] w0 (CanW w w0 (plE l)) := by
 refine (canon_any v (l.map (El.up hb)) (by rw [up_fst]; exact hv) (by simpa using hn)).mono ?_
 rintro e w' ⟨v', l1, rfl, h1, h2, h3, h4, _, el1⟩
 obtain ⟨l', d1, d2, d3⟩ := down_list (w := w) l1 (fun x hx => el1 x hx w (fun y hy => by
  obtain ⟨z, _, rfl⟩ := List.mem_map.1 hy
  exact z.2.1))
 rw [up_pl] at h2
 obtain ⟨o, c, rfl⟩ : ∃ o cap, v' = .slice o l1.length cap := by obtain ⟨_, o, cap, h, _⟩ := h1; exact ⟨o, cap, by rw [h, List.length_map]⟩
 rw [<- d1, <- d3] at h1
 exact ⟨o, c, l', by rw [d3], h1, by rw [d2, h2], by rw [d3, plE_len]; simpa using h3, h4⟩
set_option maxHeartbeats 8000000 in
theorem walkRecMerge (v0 : Value) (l0 : List RP) (v1 : Value) (l1 : List RP) (w : World) (h0 : RecsRd v0 l0 w /\ ∀ x ∈ l0, RN x.2) (h1 : RecsRd v1 l1 w /\ ∀ x ∈ l1, RN x.2) (ht : Tab w) :
  Calls Tryz.prog 6 #[v0, v1] w (TrE w) := by
 obtain ⟨h0, hrn⟩ := h0
 obtain ⟨h1, hrm⟩ := h1
 obtain ⟨oa, ca, rfl, ra1, ra2⟩ := h0.shape
 obtain ⟨ob, cb, rfl, rb1, rb2⟩ := h1.shape
 have HV := Lib.hid h0
 have HU := Lib.hid h1
 have HRN := Lib.hid hrn
 have HRM := Lib.hid hrm
 have HT := Lib.hid ht
 clear h0 h1 hrn hrm ht
 refine (callsIn_wide (n := 0)).1 ?_
 refine callsIn_of_wp Tryz.func6 rfl trivial ?_ rfl
 simp only [Tryz.ntmps6, List.size_toArray, List.length_cons, List.length_nil, Nat.reduceAdd, Nat.reduceSub, Array.replicate_succ, Array.replicate_zero, List.push_toArray, List.append_toArray, List.nil_append, List.cons_append]
 gi_wp2_with fail
 refine (callsIn_wide.2 (known5_any _ HT.out)).mono ?_
 rintro e w1 ⟨rfl, b1⟩
 have HF := Lib.hid (few5_any _ l0 w1 (HV.out.kept b1))
 have HB1 := Lib.hid b1
 clear b1
 gi_wp2_with fail
 refine (callsIn_wide.2 HF.out).mono ?_
 rintro e w2 ⟨b, rfl, hq, b2⟩
 have HB2 := Lib.hid (below5 HB1.out b2)
 have HQ := Lib.hid hq
 clear HF b2 hq
 cases b with
 | false =>
  gi_wp2_with fail
  go_ret
  exact ⟨rfl, HB2.out⟩
 | true =>
 have HG := Lib.hid (few5_any _ l1 w2 (HU.out.kept HB2.out))
 gi_wp2_with fail
 refine (callsIn_wide.2 HG.out).mono ?_
 rintro e w3 ⟨b, rfl, hp, b3⟩
 have HB3 := Lib.hid (below5 HB2.out b3)
 have HP := Lib.hid hp
 clear HG b3 hp
 cases b with
 | false =>
  gi_wp2_with fail
  go_ret
  exact ⟨rfl, HB3.out⟩
 | true =>
 obtain ⟨LA, hA, nA, lA⟩ := els_of (HV.out.kept HB3.out) (by first | exact HQ.out rfl | exact HQ.out trivial) HRN.out
 obtain ⟨LB, hB, nB, lB⟩ := els_of (HU.out.kept HB3.out) (by first | exact HP.out rfl | exact HP.out trivial) HRM.out
 have n0' : l0.length <= 60 := (show RF l0 by first | exact HQ.out rfl | exact HQ.out trivial).len
 have n1' : l1.length <= 60 := (show RF l1 by first | exact HP.out rfl | exact HP.out trivial).len
 have n0 : (l0.length : Int) <= 60 := by omega
 have n1 : (l1.length : Int) <= 60 := by omega
 by_cases h40 : 40 < (l0.length : Int) + (l1.length : Int)
 ·gi_wp2_with fail
  go_ret
  exact ⟨rfl, HB3.out⟩
 have HRA : Hid (∀ W, Below w3.heap.size w3 W -> RecsRd (.slice oa l0.length ca) (LA.map (·.1)) W) := fun W hb => by rw [hA]; exact HV.out.kept (below5 HB3.out hb)
 have HRB : Hid (∀ W, Below w3.heap.size w3 W -> RecsRd (.slice ob l1.length cb) (LB.map (·.1)) W) := fun W hb => by rw [hB]; exact HU.out.kept (below5 HB3.out hb)
 have HLA := Lib.hid lA
 have HLB := Lib.hid lB
 have B3_3 := Lib.hid (Below.refl w3.heap.size w3)
 clear hA hB HQ HP HB1 HB2 lA lB
 have B3_a : Hid (Below w3.heap.size w3 (w3.alloc (.cells #[] 31))) := (Below.refl _ _).alloc (Nat.le_refl _) _
 gi_wp2_with (first | (gi_at_builtin; refine append_recs (fun g => w3.heap.size <= g) rfl _ _ 34 Tryz.underlying34 rfl _ 0 [] (by rfl) (row_emptyG _ _ 7 w3 (Nat.le_refl _)) _ (LA.map (·.1)) (by rfl) (HRA.out _ B3_a.out) (by simp only [List.length_map]; omega) B3_a.out.size ?_; intro v4 w4 hrow4 hgr4; obtain ⟨o4, c4, e4⟩ := hrow4.form; subst e4; simp only [Nat.zero_add, List.length_map] at hrow4; have R4 := Lib.hid hrow4; have B3_4 : Hid (Below w3.heap.size w3 w4) := B3_a.out.grown hgr4 B3_a.out.size (fun g hg => by simp only [Value.ownBlock, Option.some.injEq] at hg; omega); clear hrow4 hgr4) | (gi_at_builtin; refine append_recs (fun g => w3.heap.size <= g) rfl _ _ 34 Tryz.underlying34 rfl _ _ _ (by rfl) R4.out _ (LB.map (·.1)) (by rfl) (HRB.out _ B3_4.out) (by simp only [List.length_map]; omega) B3_4.out.size ?_; intro v5 w5 hrow5 hgr5; obtain ⟨o5, c5, e5⟩ := hrow5.form; subst e5; simp only [List.length_map] at hrow5; have R5 := Lib.hid hrow5; have B3_5 : Hid (Below w3.heap.size w3 w5) := B3_4.out.grown hgr5 B3_4.out.size (fun g hg => R4.out.2 g hg); clear hrow5 hgr5))
 have X5 : Hid (RecsRd (.slice o5 (LA.length + LB.length) c5) ((LA ++ LB).map (·.1)) w5) := by
  have h := R5.out
  rw [List.nil_append, encP_el, encP_el, <- List.flatMap_append] at h
  have hlen : LA.length + LB.length = (LA ++ LB).length := by simp
  rw [hlen] at h
  have := h.recs (B3_5.out)
  rw [List.length_append] at this
  exact this
 obtain ⟨PA, hPA⟩ : ∃ p, plE LA = p := ⟨_, rfl⟩
 obtain ⟨PB, hPB⟩ : ∃ p, plE LB = p := ⟨_, rfl⟩
 have lPA : PA.length = LA.length := by rw [<- hPA, plE_len]
 have lPB : PB.length = LB.length := by rw [<- hPB, plE_len]
 have EA := Lib.hid hPA
 have EB := Lib.hid hPB
 have LPA := Lib.hid lPA
 have LPB := Lib.hid lPB
 clear hPA hPB lPA lPB R4 B3_4
 refine (callsIn_wide.2 (canon3_any B3_5.out _ (LA ++ LB) X5.out (by simp; omega))).mono ?_
 rintro e w6 ⟨ox, cx, lx, rfl, hv, hp, hn, b6⟩
 rw [show plE (LA ++ LB) = PA ++ PB by rw [<- EA.out, <- EB.out]; simp [plE]] at hp hn
 have VX := Lib.hid hv
 have EX := Lib.hid hp
 have NX : Hid (lx.length <= LA.length + LB.length) := by show _ <= _; rw [List.length_append, LPA.out, LPB.out] at hn; exact hn
 have B3_6 := Lib.hid (below5 B3_5.out b6)
 clear hv hp hn b6 X5 R5
 gi_wp2_with fail
 have B6_a : Hid (Below w6.heap.size w6 (w6.alloc (.cells #[] 31))) := (Below.refl _ _).alloc (Nat.le_refl _) _
 have B3_6a := Lib.hid (below5 B3_6.out B6_a.out)
 have RE : Hid (Row (fun g => w6.heap.size <= g) 31 7 (.slice (some ⟨w6.heap.size, 0, none⟩) 0 0) 0 [] (w6.alloc (.cells #[] 31))) := row_emptyG _ _ 7 w6 (Nat.le_refl _)
 refine (callsIn_wide.2 (canon3_any B3_6a.out (.slice oa l0.length ca) LA (HRA.out _ B3_6a.out) (by omega))).mono ?_
 rintro e w7 ⟨op, cp, lp, rfl, hv, hp, hn, b7⟩
 rw [EA.out] at hp hn
 have VP := Lib.hid hv
 have EP := Lib.hid hp
 have np : lp.length <= 60 := by rw [LPA.out] at hn; omega
 have B6_7 := Lib.hid (below5 B6_a.out b7)
 have B3_7 := Lib.hid (below5 B3_6a.out b7)
 have RE7 := Lib.hid (RE.out.below b7)
 clear hv hp hn b7 RE
 gi_wp2_with (gi_at_builtin; refine append_recs (fun g => w6.heap.size <= g) rfl _ _ 34 Tryz.underlying34 rfl _ 0 [] (by rfl) RE7.out _ (lp.map (·.1)) (by rfl) VP.out (by simp only [List.length_map]; omega) B6_7.out.size ?_; intro v8 w8 hrow8 hgr8; obtain ⟨o8, c8, e8⟩ := hrow8.form; subst e8; simp only [Nat.zero_add, List.length_map] at hrow8; have R8 := Lib.hid hrow8; have B6_8 : Hid (Below w6.heap.size w6 w8) := B6_7.out.grown hgr8 B6_7.out.size (fun g hg => RE7.out.2 g hg); have B3_8 := Lib.hid (below5 B3_6.out B6_8.out); clear hrow8 hgr8)
 refine (callsIn_wide.2 (canon3_any B3_8.out (.slice ob l1.length cb) LB (HRB.out _ B3_8.out) (by omega))).mono ?_
 rintro e w9 ⟨oq, cq, lq, rfl, hv, hp, hn, b9⟩
 rw [EB.out] at hp hn
 have VQ := Lib.hid hv
 have EQ := Lib.hid hp
 have nq : lq.length <= 60 := by rw [LPB.out] at hn; omega
 have B6_9 := Lib.hid (below5 B6_8.out b9)
 have B3_9 := Lib.hid (below5 B3_8.out b9)
 have R9 := Lib.hid (R8.out.below b9)
 clear hv hp hn b9
 gi_wp2_with (gi_at_builtin; refine append_recs (fun g => w6.heap.size <= g) rfl _ _ 34 Tryz.underlying34 rfl _ _ _ (by rfl) R9.out _ (lq.map (·.1)) (by rfl) VQ.out (by simp only [List.length_map]; omega) B6_9.out.size ?_; intro v10 w10 hrow10 hgr10; obtain ⟨o10, c10, e10⟩ := hrow10.form; subst e10; simp only [List.length_map] at hrow10; have R10 := Lib.hid hrow10; have B6_10 : Hid (Below w6.heap.size w6 w10) := B6_9.out.grown hgr10 B6_9.out.size (fun g hg => R9.out.2 g hg); have B3_10 := Lib.hid (below5 B3_6.out B6_10.out); clear hrow10 hgr10)
 have X10 : Hid (RecsRd (.slice o10 (lp.length + lq.length) c10) ((lp ++ lq).map (·.1)) w10) := by
  have h := R10.out
  rw [List.nil_append, encP_el, encP_el, <- List.flatMap_append] at h
  have hlen : lp.length + lq.length = (lp ++ lq).length := by simp
  rw [hlen] at h
  have := h.recs (B3_10.out)
  rw [List.length_append] at this
  exact this
 have lpq : (lp ++ lq).length <= 1000 := by rw [List.length_append]; omega
 refine (callsIn_wide.2 (canon3_any B3_10.out _ (lp ++ lq) X10.out lpq)).mono ?_
 rintro e w11 ⟨oy, cy, ly, rfl, hv, hp, hn, b11⟩
 rw [show plE (lp ++ lq) = Rc.canon PA ++ Rc.canon PB by rw [<- EP.out, <- EQ.out]; simp [plE]] at hp hn
 have VY := Lib.hid hv
 have EY := Lib.hid hp
 have NY : Hid (ly.length <= 1000) := by show _ <= _; have h1 := congrArg List.length EP.out; have h2 := congrArg List.length EQ.out; rw [plE_len] at h1 h2; rw [List.length_append, <- h1, <- h2] at hn; omega
 have B3_11 := Lib.hid (below5 B3_10.out b11)
 have VX11 := Lib.hid (VX.out.kept (below5 B6_10.out b11))
 clear hv hp hn b11 X10 R10 B3_10 lpq VP VQ EP EQ np nq VX B6_10 B6_9 B6_8 B6_7 B6_a B3_6a RE7 R8 R9
 have B11_a : Hid (Below w11.heap.size w11 (w11.alloc (.cells #[] 31))) := (Below.refl _ _).alloc (Nat.le_refl _) _
 have B3_11a := Lib.hid (below5 B3_11.out B11_a.out)
 gi_wp2_with (first | (gi_at_builtin; refine append_recs (fun g => w11.heap.size <= g) rfl _ _ 34 Tryz.underlying34 rfl _ 0 [] (by rfl) (row_emptyG _ _ 7 w11 (Nat.le_refl _)) _ (LB.map (·.1)) (by rfl) (HRB.out _ B3_11a.out) (by simp only [List.length_map]; omega) B11_a.out.size ?_; intro v12 w12 hrow12 hgr12; obtain ⟨o12, c12, e12⟩ := hrow12.form; subst e12; simp only [Nat.zero_add, List.length_map] at hrow12; have R12 := Lib.hid hrow12; have B11_12 : Hid (Below w11.heap.size w11 w12) := B11_a.out.grown hgr12 B11_a.out.size (fun g hg => by simp only [Value.ownBlock, Option.some.injEq] at hg; omega); have B3_12 := Lib.hid (below5 B3_11.out B11_12.out); clear hrow12 hgr12) | (gi_at_builtin; refine append_recs (fun g => w11.heap.size <= g) rfl _ _ 34 Tryz.underlying34 rfl _ _ _ (by rfl) R12.out _ (LA.map (·.1)) (by rfl) (HRA.out _ B3_12.out) (by simp only [List.length_map]; omega) B11_12.out.size ?_; intro v13 w13 hrow13 hgr13; obtain ⟨o13, c13, e13⟩ := hrow13.form; subst e13; simp only [List.length_map] at hrow13; have R13 := Lib.hid hrow13; have B11_13 : Hid (Below w11.heap.size w11 w13) := B11_12.out.grown hgr13 B11_12.out.size (fun g hg => R12.out.2 g hg); have B3_13 := Lib.hid (below5 B3_11.out B11_13.out); clear hrow13 hgr13))
 have X13 : Hid (RecsRd (.slice o13 (LB.length + LA.length) c13) ((LB ++ LA).map (·.1)) w13) := by
  have h := R13.out
  rw [List.nil_append, encP_el, encP_el, <- List.flatMap_append] at h
  have hlen : LB.length + LA.length = (LB ++ LA).length := by simp
  rw [hlen] at h
  have := h.recs (B3_13.out)
  rw [List.length_append] at this
  exact this
 refine (callsIn_wide.2 (canon3_any B3_13.out _ (LB ++ LA) X13.out (by simp; omega))).mono ?_
 rintro e w14 ⟨oz, cz, lz, rfl, hv, hp, hn, b14⟩
 rw [show plE (LB ++ LA) = PB ++ PA by rw [<- EA.out, <- EB.out]; simp [plE]] at hp hn
 have VZ := Lib.hid hv
 have EZ := Lib.hid hp
 have NZ : Hid (lz.length <= 1000) := by show _ <= _; rw [List.length_append, LPA.out, LPB.out] at hn; omega
 have b11 := below5 B11_13.out b14
 have b3 := Lib.hid (below5 B3_13.out b14)
 have VX14 := Lib.hid (VX11.out.kept b11)
 have VY14 := Lib.hid (VY.out.kept b11)
 clear hv hp hn b14 b11 X13 R13 R12 B3_13 B3_12 B11_13 B11_12 B11_a B3_11a VX11 VY HRA HRB HU HV
 have HS1 : Hid (∀ W, Below w14.heap.size w14 W -> Calls Tryz.prog 22 #[.slice ox lx.length cx, .slice oy ly.length cy] W (Gives (.bool true) W)) := fun W hb => by
  have h := sameRow2_any (w := w3) (below5 b3.out hb) (.slice ox lx.length cx) (.slice oy ly.length cy) lx ly (VX14.out.kept hb) (VY14.out.kept hb) (by have := NX.out; omega) NY.out
  rw [EX.out, EY.out, Rc.merge_same] at h
  exact h
 have HS2 : Hid (∀ W, Below w14.heap.size w14 W -> Calls Tryz.prog 22 #[.slice ox lx.length cx, .slice oz lz.length cz] W (Gives (.bool true) W)) := fun W hb => by
  have h := sameRow2_any (w := w3) (below5 b3.out hb) (.slice ox lx.length cx) (.slice oz lz.length cz) lx lz (VX14.out.kept hb) (VZ.out.kept hb) (by have := NX.out; omega) NZ.out
  rw [EX.out, EZ.out, Rc.merge_swap] at h
  exact h
 clear VX14 VY14 VZ EX EY EZ
 gi_wp2_with fail
 refine (callsIn_wide.2 (HS1.out w14 (Below.refl _ _))).mono ?_
 rintro e w15 ⟨rfl, b15⟩
 have HB15 := Lib.hid b15
 clear HS1 b15
 gi_wp2_with fail
 refine (callsIn_wide.2 (HS2.out w15 HB15.out)).mono ?_
 rintro e w16 ⟨rfl, b16⟩
 have HB16 := Lib.hid (below5 HB15.out b16)
 clear HS2 b16
 have nx : (lx.length : Int) <= (l0.length : Int) + l1.length := by have h1 := NX.out; have h2 := HLA.out; have h3 := HLB.out; omega
 gi_wp2_with fail
 go_ret
 exact ⟨rfl, below5 HB3.out (below5 b3.out HB16.out)⟩
end Go.Proofs.YtbgbahllhjelgaaGreatDoor
