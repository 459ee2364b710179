/- The walk of SetsAll. -/
import Derived.Test.YtneghhbclefmoaaLSfC
import Derived.Test.YtneghhbclefmoaaJZnO
namespace Go.Proofs.Ytneghhbclefmoaa
open Go.RowKit Go.Shelf Go.Sort
set_option maxRecDepth 100000

/-- the set at place i, cell by cell -/
def SetAt {w : World} (_gs : List (List (El w))) (ga : Addr) (w1 : World) (i : Nat) (g : List (El w)) : Prop :=
  ∃ x xs po no qo od cd, g = x :: xs ∧ Rd (.slice po no qo) x.1.2.owner w ∧ DatsRd (.slice od g.length cd) g w1 ∧
    ∀ W', Below w1.heap.size w1 W' → W'.cell? (ga.add (i * 4)) = some (.slice po no qo) ∧ W'.cell? ⟨(ga.add (i * 4)).block, (ga.add (i * 4)).off + 1, none⟩ = some (.int .i64 x.1.2.type) ∧
      W'.cell? ⟨(ga.add (i * 4)).block, (ga.add (i * 4)).off + 2, none⟩ = some (.int .u32 ((Rs.ttl x.1.2 (plE g) : Nat) : Int)) ∧ W'.cell? ⟨(ga.add (i * 4)).block, (ga.add (i * 4)).off + 3, none⟩ = some (.slice od g.length cd)
theorem SetsRd.at {w : World} {o : Option Addr} {n cap : Nat} {gs : List (List (El w))} {w1 : World} (h : SetsRd (.slice o n cap) gs w1) (i : Nat) (hi : i < gs.length) : ∃ ga, o = some ga ∧ SetAt gs ga w1 i gs[i] := by
  obtain ⟨css, hg, hl, hs⟩ := h
  have hi' : i < css.length := by omega
  obtain ⟨ga, rfl, _⟩ := hg.at (by decide) i hi'
  obtain ⟨x, xs, po, no, qo, od, cd, e1, e2, e3, e4⟩ := hs i hi' hi
  refine ⟨ga, rfl, x, xs, po, no, qo, od, cd, e1, e3, e4, fun W' hW => ?_⟩
  obtain ⟨a, ha, q0, q1⟩ := (hg.below hW).at (by decide) i hi'
  cases ha
  simp only [e2] at q0 q1
  exact ⟨q0, q1 1 (by decide) (by decide), q1 2 (by decide) (by decide), q1 3 (by decide) (by decide)⟩
theorem SetsRd.form {w : World} {v : Value} {gs : List (List (El w))} {w1 : World} (h : SetsRd v gs w1) : ∃ o cap, v = .slice o gs.length cap ∧ gs.length ≤ cap ∧ cap ≤ 9223372036854775807 := by
  obtain ⟨css, hg, hl, _⟩ := h
  obtain ⟨o, cap, h1, h2, h3⟩ := hg.form
  exact ⟨o, cap, by rw [h1, hl], by omega, h3⟩
theorem flat_take_len {α : Type} (gs : List (List α)) (i : Nat) (hi : i < gs.length) : (gs.take (i + 1)).flatten.length = (gs.take i).flatten.length + gs[i].length := by
  rw [List.take_succ_eq_append_getElem hi, List.flatten_append, List.length_append]; simp
theorem flat_take_le {α : Type} (gs : List (List α)) (i : Nat) : (gs.take i).flatten.length ≤ gs.flatten.length := by
  conv => rhs; rw [← List.take_append_drop i gs, List.flatten_append, List.length_append]
  omega
theorem any_take {l : List Int} {t : Int} (k : Nat) (hk : k < l.length) : (l.take (k + 1)).any (· == t) = ((l.take k).any (· == t) || (l[k] == t)) := by
  rw [List.take_succ_eq_append_getElem hk, List.any_append]; simp
theorem Rs.types_len (L : List Rc.PRec) (o : List (List UInt8)) : (Rs.types L o).length ≤ L.length := by
  unfold Rs.types
  refine Nat.le_trans (compact_len _) ?_
  rw [List.length_mergeSort, List.length_map]
  exact List.length_filter_le _ _
def TrS (w : World) (e : Ending) (w' : World) : Prop := e = .returned (.bool true) ∧ Below w.heap.size w w'
theorem DatsRd.off {w : World} {o : Option Addr} {n cap : Nat} {l : List (El w)} {W : World} (h : DatsRd (.slice o n cap) l W) (hn : 0 < n) {b : Nat} {c0 c1 c2 c3 : Value} {t : TypeId} (hb : Blk b #[c0, c1, c2, c3] t W) : ∀ a, o = some a → a.block ≠ b := by
  rintro a rfl e
  obtain ⟨o', cap', e0, _, _, _, h5⟩ := h
  cases e0
  obtain ⟨a', ha, hc⟩ := h5 4 (by rw [flat_len encD 5 encD_len]; omega)
  cases ha
  have : (a.add 4) = ⟨b, a.off + 4, none⟩ := by subst e; rfl
  rw [this, hb.cell] at hc
  simp at hc
set_option maxHeartbeats 8000000 in
theorem walkSetsAll (v0 : Value) (l0 : List RP) (w : World) (h0 : RecsRd v0 l0 w ∧ ∀ x ∈ l0, RN x.2) :
    Calls Try.prog 8 #[v0] w (TrS w) := by
  obtain ⟨h0, hrn⟩ := h0
  obtain ⟨oo, co, rfl⟩ : ∃ o cap, v0 = .slice o l0.length cap := by obtain ⟨_, o, cap, h, _⟩ := h0; exact ⟨o, cap, h⟩
  have HV := Lib.hid h0
  have HRN := Lib.hid hrn
  clear h0 hrn
  refine (callsIn_wide (n := 0)).1 ?_
  refine callsIn_of_wp Try.func8 rfl trivial ?_ rfl
  simp only [Try.ntmps8, List.size_toArray, List.length_cons, List.length_nil, Nat.reduceAdd, Nat.reduceSub, Array.replicate_succ, Array.replicate_zero, List.push_toArray, List.append_toArray, List.nil_append, List.cons_append]
  gi_wp2_with fail
  refine (callsIn_wide.2 (known6_any _)).mono ?_
  rintro e w1 ⟨rfl, b1⟩
  have HF := Lib.hid (few5_any _ l0 w1 (HV.out.kept b1))
  have HB1 := Lib.hid b1
  clear b1
  gi_wp2_with fail
  refine (callsIn_wide.2 HF.out).mono ?_
  rintro e w2 ⟨b, rfl, hq, b2⟩
  have HB2 := Lib.hid (below5 HB1.out b2)
  have HQ := Lib.hid hq
  clear HF b2 hq HB1
  cases b with
  | false =>
    gi_wp2_with fail
    go_ret
    exact ⟨rfl, HB2.out⟩
  | true =>
  have hrk := HV.out.kept HB2.out
  obtain ⟨l, hL, hL60, hLl⟩ := els_of hrk (HQ.out rfl) HRN.out
  have hrec : RecsRd (.slice oo l0.length co) (l.map (·.1)) w2 := by rw [hL]; exact hrk
  have HS := Lib.hid (rsets_any (w0 := w2) _ l (Below.refl _ _) hrec (by omega))
  have HRC := Lib.hid hrec
  clear hrk hrec hL HQ
  gi_wp2_with fail
  refine (callsIn_wide.2 HS.out).mono ?_
  rintro e w3 ⟨c, v3, hc, hcl, rfl, hsr, b3⟩
  obtain ⟨gs, hgs⟩ : ∃ gs, grp c = gs := ⟨_, rfl⟩
  rw [hgs] at hsr
  obtain ⟨os, cs, rfl, hs1, hs2⟩ := hsr.form
  have hgf : gs.flatten = c := by rw [← hgs]; exact grp_flat c
  have hgl : gs.length ≤ c.length := by
    have h1 : gs.length ≤ gs.flatten.length := by
      rw [List.length_flatten]
      have : ∀ (m : List (List (El w2))), (∀ g ∈ m, 0 < g.length) → m.length ≤ (m.map List.length).sum := by
        intro m
        induction m with
        | nil => intro _; simp
        | cons a m ih =>
          intro hm
          have h1 := hm a List.mem_cons_self
          have h2 := ih (fun g hg => hm g (List.mem_cons_of_mem _ hg))
          simp only [List.map_cons, List.sum_cons, List.length_cons]; omega
      refine this gs fun g hg => ?_
      obtain ⟨i, hi, rfl⟩ := List.mem_iff_getElem.1 hg
      obtain ⟨_, _, x, xs, _, _, _, _, _, e, _⟩ := hsr.at i hi
      rw [e]; simp
    rw [hgf] at h1; exact h1
  have HFND : Hid (∀ i (h : i < gs.length), ∃ x xs, plE gs[i] = x :: xs ∧ Rs.mine (plE l) x.owner x.type = plE gs[i] ∧ Rs.run x (plE gs[i]) = (plE gs[i]).length ∧ x.type ∈ Rs.types (plE l) x.owner) := fun i hi => by
    refine Rs.grp_found ?_
    rw [← hc, ← plE_grp, hgs]
    exact List.mem_map.2 ⟨_, List.getElem_mem hi, rfl⟩
  have HGF := Lib.hid hgf
  have HCL : Hid (c.length ≤ 60) := by show _ ≤ _; omega
  have HGL : Hid (gs.length ≤ 60) := by show _ ≤ _; omega
  have glz : (gs.length : Int) ≤ 60 := by omega
  have HSR := Lib.hid hsr
  have HC := Lib.hid hc
  have HB23 := Lib.hid b3
  clear hgs hsr hgf hgl hc b3 hcl hs1 HS
  gi_wp2_with fail
  gi_loopw [4, 5] (fun v4 v5 W => ∃ i : Nat, i ≤ gs.length ∧ v5 = .int .i64 i ∧ v4 = .int .i64 ((gs.take i).flatten.length : Nat) ∧ Below w3.heap.size w3 W) (fun _ v5 _ => gs.length - (intOf v5).toNat)
  case atStart => exact ⟨0, Nat.zero_le _, rfl, rfl, Below.refl _ _⟩
  case round =>
    obtain ⟨i, hi, rfl, rfl, hb⟩ := hrel
    by_cases hlt : i < gs.length
    · have hiz : (i : Int) < (gs.length : Int) := by omega
      obtain ⟨ga, rfl, hat⟩ := HSR.out.at i hlt
      obtain ⟨g, hg⟩ : ∃ g, gs[i] = g := ⟨_, rfl⟩
      have hfl := flat_take_len gs i hlt
      have hfm := flat_take_le gs (i + 1)
      have hfnd := HFND.out i hlt
      rw [hg] at hat hfl hfnd
      rw [HGF.out] at hfm
      obtain ⟨x, xs, po, no, qo, od, cd, rfl, hro, hdt, hce⟩ := hat
      obtain ⟨x', xs', hf0, hf1, hf2, hf3⟩ := hfnd
      obtain ⟨rfl, rfl⟩ : x' = x.1.2 ∧ xs' = plE xs := by
        have : plE (x :: xs) = x.1.2 :: plE xs := rfl
        rw [this] at hf0; cases hf0; exact ⟨rfl, rfl⟩
      obtain ⟨m, hm⟩ : ∃ m, (x :: xs).length = m := ⟨_, rfl⟩
      obtain ⟨tt, htt⟩ : ∃ tt, Rs.ttl x.1.2 (plE (x :: xs)) = tt := ⟨_, rfl⟩
      obtain ⟨nn, hnn⟩ : ∃ nn, (gs.take i).flatten.length = nn := ⟨_, rfl⟩
      obtain ⟨e, he⟩ : ∃ e, ga.add (i * 4) = e := ⟨_, rfl⟩
      obtain ⟨nx, hnx⟩ : ∃ nx, x.1.2.type = nx := ⟨_, rfl⟩
      rw [hm] at hdt hfl
      rw [hm, htt, he, hnx] at hce
      rw [hnn] at hfl ⊢
      have hm0 : 0 < m := by rw [← hm]; simp
      have hmz : (0 : Int) < (m : Int) := by omega
      have hmn : nn + m ≤ 60 := by have := HCL.out; omega
      have hmn2 : ((nn : Int) + (m : Int)) ≤ 60 := by omega
      have w7 : IntKind.i64.wrap ((nn : Int) + (m : Int)) = ((nn + m : Nat) : Int) := by rw [IntWalk.i64_in _ (by omega)]; omega
      have HCE := Lib.hid hce
      have HFL := Lib.hid hfl
      have HRO := Lib.hid hro
      have HDT := Lib.hid hdt
      have HF1 := Lib.hid hf1
      have HF2 := Lib.hid hf2
      have HF3 := Lib.hid hf3
      have HM := Lib.hid hm
      have HTT := Lib.hid htt
      have HNX := Lib.hid hnx
      have HE := Lib.hid he
      have HB := Lib.hid hb
      obtain ⟨e0, e1, e2, e3⟩ := hce wr hb
      clear hce hfl hfm hro hdt hf0 hf1 hf2 hf3 hm htt hnn hb hg hnx
      gi_wp2_with fail
      refine drawnH [5, 10, 12, 13, 14, 15, 16] (fun w' => w'.cell? e = some (.slice po no qo) ∧ w'.cell? ⟨e.block, e.off + 1, none⟩ = some (.int .i64 nx)) 18 rfl (by kernel_rfl) ?_
      intro wa hwa
      have hS : wa.cell? e = some (.slice po no qo) ∧ wa.cell? ⟨e.block, e.off + 1, none⟩ = some (.int .i64 nx) := by subst hwa; exact ⟨e0, e1⟩
      have HBA : Hid (Below w3.heap.size w3 wa) := by subst hwa; exact HB.out.drew
      clear hwa e0 e1 e2 e3
      refine takeP 0 (v := ?qav0) (fun _ => trivial) (by rfl) (by kernel_rfl) (.inl ⟨by kernel_rfl, fun w1 _ => ?qay0⟩) ?_
      case qay0 => (go_simp; try first | rfl | (rw [if_pos (by omega)]) | (rw [if_neg (by omega)]) | (rw [if_neg (by simp; omega)]) | (split <;> first | (exfalso; omega) | rfl))
      refine takeP 1 (v := ?qav1) (fun _ => trivial) (by rfl) (by kernel_rfl) (.inl ⟨by kernel_rfl, fun w1 _ => ?qay1⟩) ?_
      case qay1 => (go_simp; try first | rfl | (rw [if_pos (by omega)]) | (rw [if_neg (by omega)]) | (rw [if_neg (by simp; omega)]) | (split <;> first | (exfalso; omega) | rfl))
      refine takeP 2 (v := ?qav2) (fun _ => trivial) (by rfl) (by kernel_rfl) (.inl ⟨by kernel_rfl, fun w1 _ => ?qay2⟩) ?_
      case qay2 => (go_simp; try first | rfl | (rw [if_pos (by omega)]) | (rw [if_neg (by omega)]) | (rw [if_neg (by simp; omega)]) | (split <;> first | (exfalso; omega) | rfl))
      refine takeP 3 (v := ?qav3) (fun _ => trivial) (by rfl) (by kernel_rfl) (.inl ⟨by kernel_rfl, fun w1 _ => ?qay3⟩) ?_
      case qay3 => (go_simp; try first | rfl | (rw [if_pos (by omega)]) | (rw [if_neg (by omega)]) | (rw [if_neg (by simp; omega)]) | (split <;> first | (exfalso; omega) | rfl))
      refine takeP 4 (v := ?qav4) (fun _ => trivial) (by rfl) (by kernel_rfl) (.inl ⟨by kernel_rfl, fun w1 _ => ?qay4⟩) ?_
      case qay4 => (go_simp; try first | rfl | (rw [if_pos (by omega)]) | (rw [if_neg (by omega)]) | (rw [if_neg (by simp; omega)]) | (split <;> first | (exfalso; omega) | rfl))
      refine takeP 6 (v := ?qav6) (fun _ => trivial) (by rfl) (by kernel_rfl) (.inl ⟨by kernel_rfl, fun w1 _ => ?qay6⟩) ?_
      case qay6 => (go_simp; try first | rfl | (rw [if_pos (by omega)]) | (rw [if_neg (by omega)]) | (rw [if_neg (by simp; omega)]) | (split <;> first | (exfalso; omega) | rfl))
      refine takeP 7 (v := ?qav7) (fun _ => trivial) (by rfl) (by kernel_rfl) (.inl ⟨by kernel_rfl, fun w1 _ => ?qay7⟩) ?_
      case qay7 => (go_simp; try first | rfl | (rw [if_pos (by omega)]) | (rw [if_neg (by omega)]) | (rw [if_neg (by simp; omega)]) | (split <;> first | (exfalso; omega) | rfl))
      refine takeP 8 (v := ?qav8) (fun _ => trivial) (by rfl) (by kernel_rfl) (.inl ⟨by kernel_rfl, fun w1 _ => ?qay8⟩) ?_
      case qay8 => (go_simp; try first | rfl | (rw [if_pos (by omega)]) | (rw [if_neg (by omega)]) | (rw [if_neg (by simp; omega)]) | (split <;> first | (exfalso; omega) | rfl))
      simp only [Act.put, List.setIfInBounds_toArray, List.set_cons_succ, List.set_cons_zero]
      refine takeP 9 (v := ?qav9) (fun _ => trivial) (by rfl) (by kernel_rfl) (.inl ⟨by kernel_rfl, fun w1 _ => ?qay9⟩) ?_
      case qay9 => (go_simp; try first | rfl | (rw [if_pos (by omega)]) | (rw [if_neg (by omega)]) | (rw [if_neg (by simp; omega)]) | (split <;> first | (exfalso; omega) | rfl))
      simp only [Act.put, List.setIfInBounds_toArray, List.set_cons_succ, List.set_cons_zero]
      refine takeH 5 (v := ?qav5) (fun _ => trivial) (by rfl) (by kernel_rfl) hS (.inl ⟨by kernel_rfl, fun w1 ⟨e0, e1⟩ => ?qay5⟩) ?_
      case qay5 => (go_simp; try first | rfl | (rw [if_pos (by omega)]) | (rw [if_neg (by omega)]) | (rw [if_neg (by simp; omega)]) | (split <;> first | (exfalso; omega) | rfl))
      refine takeH 10 (v := ?qav10) (fun _ => trivial) (by rfl) (by kernel_rfl) hS (.inl ⟨by kernel_rfl, fun w1 ⟨e0, e1⟩ => ?qay10⟩) ?_
      case qay10 => (go_simp; try first | rfl | (rw [if_pos (by omega)]) | (rw [if_neg (by omega)]) | (rw [if_neg (by simp; omega)]) | (split <;> first | (exfalso; omega) | rfl))
      simp only [Act.put, List.setIfInBounds_toArray, List.set_cons_succ, List.set_cons_zero]

      have HRO3 : Hid (∀ W', Below w3.heap.size w3 W' → Rd (.slice po no qo) x.1.2.owner W') := fun W' hW => (HRO.out.below HB23.out).below hW
      have HRC3 : Hid (∀ W', Below w3.heap.size w3 W' → RecsRd (.slice oo l0.length co) (l.map (·.1)) W') := fun W' hW => (HRC.out.kept HB23.out).kept hW
      have HSC : Hid (∀ W', Below w3.heap.size w3 W' → W'.cell? e = some (.slice po no qo) ∧ W'.cell? ⟨e.block, e.off + 1, none⟩ = some (.int .i64 nx)) := fun W' hW => ⟨(HCE.out W' hW).1, (HCE.out W' hW).2.1⟩
      have HOV : Hid (∀ (cc : List (El w2)) (W : World) (v : Value), plE cc = Rs.mine (plE l) x.1.2.owner nx → ofV cc v W → ∃ oo2 no2 co2 of2 cf2, v = .agg #[.slice oo2 no2 co2, .int .i64 nx, .int .u32 (tt : Int), .slice of2 m cf2] ∧ DatsRd (.slice of2 m cf2) cc W ∧ plE cc = plE (x :: xs) ∧ cc.isEmpty = false) := fun cc W v h1 h2 => by
        have hpc : plE cc = plE (x :: xs) := by rw [h1, ← HNX.out]; exact HF1.out
        match cc, hpc, h2 with
        | y :: ys, hpc, h2 =>
          obtain ⟨vo2, of2, cf2, ev, hro2, hd2⟩ := h2
          have hy : y.1.2 = x.1.2 := by
            have := congrArg List.head? hpc
            simpa [plE] using this
          have hyl : (y :: ys).length = m := by
            have := congrArg List.length hpc
            rw [plE_len, plE_len] at this
            rw [this]; exact HM.out
          have hrun : Rs.run y.1.2 (plE (y :: ys)) = m := by rw [hy, hpc, HF2.out, plE_len]; exact HM.out
          rw [hrun, List.take_of_length_le (by omega)] at hd2
          rw [hrun, List.take_of_length_le (by omega), hy, hpc, HTT.out, HNX.out] at ev
          obtain ⟨oo2, co2, rfl, _, _⟩ := hro2.form
          exact ⟨oo2, _, co2, of2, cf2, ev, hd2, hpc, rfl⟩
      clear HFND
      refine twoH2 11 15 (by rfl) (by rfl) (by kernel_rfl) (fun K hK => ?_) (fun K hK => ?_)
      · have HOF := Lib.hid (rsetOf_any (w0 := wa) (.slice oo l0.length co) (.slice po no qo) l x.1.2.owner nx (below5 HB23.out HBA.out) (HRC3.out _ HBA.out) (by omega) (HRO3.out _ HBA.out) x.2.2.owner)
        gi_wp2_with (gi_at_call 34; refine (callsIn_wide.2 HOF.out).mono ?_; rintro e5 wb ⟨cc, vv, hcc, _, rfl, hov, b5⟩)
        have hSb := HSC.out wb (below5 HBA.out b5)
        refine hK _ _ (fun h => absurd h (by decide)) ?_
        clear hK K hS HOF
        obtain ⟨oo2, no2, co2, of2, cf2, rfl, hd2, hpc, hie⟩ := HOV.out cc wb vv hcc hov
        rw [hie]
        simp only [Bool.not_false]
        have HBB := Lib.hid (below5 HBA.out b5)
        have HD2 := Lib.hid hd2
        have HPC := Lib.hid hpc
        have hS := hSb
        clear hSb hcc hov b5 hd2 hpc hie HOV
        refine takeH 12 (v := ?qbv12) (fun _ => trivial) (by rfl) (by kernel_rfl) hS (.inl ⟨by kernel_rfl, fun w1 ⟨e0, e1⟩ => ?qby12⟩) ?_
        case qby12 => (go_simp; try first | rfl | (rw [if_pos (by omega)]) | (rw [if_neg (by omega)]) | (rw [if_neg (by simp; omega)]) | (split <;> first | (exfalso; omega) | rfl))
        refine takeH 13 (v := ?qbv13) (fun _ => trivial) (by rfl) (by kernel_rfl) hS (.inl ⟨by kernel_rfl, fun w1 ⟨e0, e1⟩ => ?qby13⟩) ?_
        case qby13 => (go_simp; try first | rfl | (rw [if_pos (by omega)]) | (rw [if_neg (by omega)]) | (rw [if_neg (by simp; omega)]) | (split <;> first | (exfalso; omega) | rfl))
        refine takeH 14 (v := ?qbv14) (fun _ => trivial) (by rfl) (by kernel_rfl) hS (.inl ⟨by kernel_rfl, fun w1 ⟨e0, e1⟩ => ?qby14⟩) ?_
        case qby14 => (go_simp; try first | rfl | (rw [if_pos (by omega)]) | (rw [if_neg (by omega)]) | (rw [if_neg (by simp; omega)]) | (split <;> first | (exfalso; omega) | rfl))
        simp only [Act.put, List.setIfInBounds_toArray, List.set_cons_succ, List.set_cons_zero]
        refine oneH 15 (by rfl) (by kernel_rfl) (fun K hK => ?_)
        gi_wp2_with fail
        refine hK _ _ (fun _ => HSC.out _ (HBB.out.alloc HBB.out.size _)) ?_
        clear hK K
        refine oneH 16 (by rfl) (by kernel_rfl) (fun K hK => ?_)
        gi_wp2_with fail
        refine hK _ _ (fun _ => HSC.out _ (HBB.out.alloc HBB.out.size _)) ?_
        clear hK K hS
        refine oneH 17 (by rfl) (by kernel_rfl) (fun K hK => ?_)
        gi_wp2_with fail
        refine hK _ _ (fun h => absurd h (by decide)) ?_
        clear hK K
        refine doneH (by kernel_rfl) ?_
        obtain ⟨wn, hwn⟩ : ∃ W, wb.alloc (.cells #[.slice oo2 no2 co2, .int .i64 nx, .int .u32 (tt : Int), .slice of2 m cf2] 54) = W := ⟨_, rfl⟩
        obtain ⟨bx, hbx⟩ : ∃ b, wb.heap.size = b := ⟨_, rfl⟩
        have HKX : Hid (Blk bx #[.slice oo2 no2 co2, .int .i64 nx, .int .u32 (tt : Int), .slice of2 m cf2] 54 wn) := by show Blk _ _ _ _; rw [← hwn, ← hbx]; exact Blk.new wb _ _
        have HBN : Hid (Below w3.heap.size w3 wn) := by show Below _ _ _; rw [← hwn]; exact HBB.out.alloc HBB.out.size _
        have HDN : Hid (DatsRd (.slice of2 m cf2) cc wn) := by show DatsRd _ _ _; rw [← hwn]; exact HD2.out.below ((Below.refl _ _).alloc (Nat.le_refl _) _)
        rw [hwn, hbx]
        clear hwn hbx HBB HD2
        have HSE : Hid (∀ w', Below wn.heap.size wn w' → w'.cell? ⟨bx, 0, none⟩ = some (.slice oo2 no2 co2) ∧ w'.cell? ⟨bx, 1, none⟩ = some (.int .i64 nx) ∧ w'.cell? ⟨bx, 2, none⟩ = some (.int .u32 (tt : Int)) ∧ w'.cell? ⟨bx, 3, none⟩ = some (.slice of2 m cf2) ∧ w'.cell? e = some (.slice po no qo) ∧ w'.cell? ⟨e.block, e.off + 1, none⟩ = some (.int .i64 nx) ∧ w'.cell? ⟨e.block, e.off + 2, none⟩ = some (.int .u32 (tt : Int)) ∧ w'.cell? ⟨e.block, e.off + 3, none⟩ = some (.slice od m cd)) := fun w' hW => ⟨(HKX.out.below hW).cell 0, (HKX.out.below hW).cell 1, (HKX.out.below hW).cell 2, (HKX.out.below hW).cell 3, HCE.out w' (below5 HBN.out hW)⟩
        have hm00 : ((m : Int) == 0) = false := by rw [beq_eq_false_iff_ne]; omega
        have hm01 : decide (m = 0) = false := by rw [decide_eq_false_iff_not]; omega
        gi_wp2_with fail
        refine drawnH (List.range 30) (fun w' => w'.cell? ⟨bx, 0, none⟩ = some (.slice oo2 no2 co2) ∧ w'.cell? ⟨bx, 1, none⟩ = some (.int .i64 nx) ∧ w'.cell? ⟨bx, 2, none⟩ = some (.int .u32 (tt : Int)) ∧ w'.cell? ⟨bx, 3, none⟩ = some (.slice of2 m cf2) ∧ w'.cell? e = some (.slice po no qo) ∧ w'.cell? ⟨e.block, e.off + 1, none⟩ = some (.int .i64 nx) ∧ w'.cell? ⟨e.block, e.off + 2, none⟩ = some (.int .u32 (tt : Int)) ∧ w'.cell? ⟨e.block, e.off + 3, none⟩ = some (.slice od m cd)) 30 rfl (by kernel_rfl) ?_
        intro wc hwc
        have hbc : Below wn.heap.size wn wc := by subst hwc; exact (Below.refl _ _).drew
        have hS := HSE.out wc hbc
        have HEQ := Lib.hid (setEqual_any (w0 := wc) oo2 no2 co2 nx tt po no qo nx tt (.slice of2 m cf2) (.slice od m cd) cc (x :: xs) (below5 HB23.out (below5 HBN.out hbc)) (HDN.out.below hbc) (HDT.out.below (below5 HBN.out hbc)) (by have h1 := congrArg List.length HPC.out; rw [plE_len, plE_len, HM.out] at h1; omega) (by rw [HM.out]; omega))
        rw [HPC.out, Rs.sameDats_refl] at HEQ
        have HBC := Lib.hid hbc
        clear hwc hbc
        refine takeH 0 (v := ?qacv0) (fun _ => trivial) (by rfl) (by kernel_rfl) hS (.inl ⟨by kernel_rfl, fun w1 ⟨k0, k1, k2, k3, e0, e1, e2, e3⟩ => ?qacy0⟩) ?_
        case qacy0 => (go_simp; try first | rfl | (rw [if_pos (by omega)]) | (rw [if_neg (by omega)]) | (rw [if_neg (by simp; omega)]) | (split <;> first | (exfalso; omega) | rfl))
        refine takeH 1 (v := ?qacv1) (fun _ => trivial) (by rfl) (by kernel_rfl) hS (.inl ⟨by kernel_rfl, fun w1 ⟨k0, k1, k2, k3, e0, e1, e2, e3⟩ => ?qacy1⟩) ?_
        case qacy1 => (go_simp; try first | rfl | (rw [if_pos (by omega)]) | (rw [if_neg (by omega)]) | (rw [if_neg (by simp; omega)]) | (split <;> first | (exfalso; omega) | rfl))
        refine takeH 2 (v := ?qacv2) (fun _ => trivial) (by rfl) (by kernel_rfl) hS (.inl ⟨by kernel_rfl, fun w1 ⟨k0, k1, k2, k3, e0, e1, e2, e3⟩ => ?qacy2⟩) ?_
        case qacy2 => (go_simp; try first | rfl | (rw [if_pos (by omega)]) | (rw [if_neg (by omega)]) | (rw [if_neg (by simp; omega)]) | (split <;> first | (exfalso; omega) | rfl))
        refine takeH 3 (v := ?qacv3) (fun _ => trivial) (by rfl) (by kernel_rfl) hS (.inl ⟨by kernel_rfl, fun w1 ⟨k0, k1, k2, k3, e0, e1, e2, e3⟩ => ?qacy3⟩) ?_
        case qacy3 => (go_simp; try first | rfl | (rw [if_pos (by omega)]) | (rw [if_neg (by omega)]) | (rw [if_neg (by simp; omega)]) | (split <;> first | (exfalso; omega) | rfl))
        refine takeH 4 (v := ?qacv4) (fun _ => trivial) (by rfl) (by kernel_rfl) hS (.inl ⟨by kernel_rfl, fun w1 ⟨k0, k1, k2, k3, e0, e1, e2, e3⟩ => ?qacy4⟩) ?_
        case qacy4 => (go_simp; try first | rfl | (rw [if_pos (by omega)]) | (rw [if_neg (by omega)]) | (rw [if_neg (by simp; omega)]) | (split <;> first | (exfalso; omega) | rfl))
        refine takeH 5 (v := ?qacv5) (fun _ => trivial) (by rfl) (by kernel_rfl) hS (.inl ⟨by kernel_rfl, fun w1 ⟨k0, k1, k2, k3, e0, e1, e2, e3⟩ => ?qacy5⟩) ?_
        case qacy5 => (go_simp; try first | rfl | (rw [if_pos (by omega)]) | (rw [if_neg (by omega)]) | (rw [if_neg (by simp; omega)]) | (split <;> first | (exfalso; omega) | rfl))
        refine takeH 6 (v := ?qacv6) (fun _ => trivial) (by rfl) (by kernel_rfl) hS (.inl ⟨by kernel_rfl, fun w1 ⟨k0, k1, k2, k3, e0, e1, e2, e3⟩ => ?qacy6⟩) ?_
        case qacy6 => (go_simp; try first | rfl | (rw [if_pos (by omega)]) | (rw [if_neg (by omega)]) | (rw [if_neg (by simp; omega)]) | (split <;> first | (exfalso; omega) | rfl))
        refine takeH 7 (v := ?qacv7) (fun _ => trivial) (by rfl) (by kernel_rfl) hS (.inl ⟨by kernel_rfl, fun w1 ⟨k0, k1, k2, k3, e0, e1, e2, e3⟩ => ?qacy7⟩) ?_
        case qacy7 => (go_simp; try first | rfl | (rw [if_pos (by omega)]) | (rw [if_neg (by omega)]) | (rw [if_neg (by simp; omega)]) | (split <;> first | (exfalso; omega) | rfl))
        simp only [Act.put, List.setIfInBounds_toArray, List.set_cons_succ, List.set_cons_zero]
        refine oneH 8 (by rfl) (by kernel_rfl) (fun K hK => ?_)
        gi_wp2_with (gi_at_call 40; refine (callsIn_wide.2 HEQ.out).mono ?_; rintro e6 wd ⟨rfl, b6⟩)
        have HBD := Lib.hid (below5 HBC.out b6)
        refine hK _ _ (fun _ => HSE.out wd HBD.out) ?_
        clear hK K hS b6 HEQ
        have hS := HSE.out wd HBD.out
        refine takeH 9 (v := ?qadv9) (fun _ => trivial) (by rfl) (by kernel_rfl) hS (.inl ⟨by kernel_rfl, fun w1 ⟨k0, k1, k2, k3, e0, e1, e2, e3⟩ => ?qady9⟩) ?_
        case qady9 => (go_simp; try first | rfl | (rw [if_pos (by omega)]) | (rw [if_neg (by omega)]) | (rw [if_neg (by simp; omega)]) | (split <;> first | (exfalso; omega) | rfl))
        refine takeH 10 (v := ?qadv10) (fun _ => trivial) (by rfl) (by kernel_rfl) hS (.inl ⟨by kernel_rfl, fun w1 ⟨k0, k1, k2, k3, e0, e1, e2, e3⟩ => ?qady10⟩) ?_
        case qady10 => (go_simp; try first | rfl | (rw [if_pos (by omega)]) | (rw [if_neg (by omega)]) | (rw [if_neg (by simp; omega)]) | (split <;> first | (exfalso; omega) | rfl))
        refine takeH 11 (v := ?qadv11) (fun _ => trivial) (by rfl) (by kernel_rfl) hS (.inl ⟨by kernel_rfl, fun w1 ⟨k0, k1, k2, k3, e0, e1, e2, e3⟩ => ?qady11⟩) ?_
        case qady11 => (go_simp; try first | rfl | (rw [if_pos (by omega)]) | (rw [if_neg (by omega)]) | (rw [if_neg (by simp; omega)]) | (split <;> first | (exfalso; omega) | rfl))
        refine takeH 12 (v := ?qadv12) (fun _ => trivial) (by rfl) (by kernel_rfl) hS (.inl ⟨by kernel_rfl, fun w1 ⟨k0, k1, k2, k3, e0, e1, e2, e3⟩ => ?qady12⟩) ?_
        case qady12 => (go_simp; try first | rfl | (rw [if_pos (by omega)]) | (rw [if_neg (by omega)]) | (rw [if_neg (by simp; omega)]) | (split <;> first | (exfalso; omega) | rfl))
        refine takeH 13 (v := ?qadv13) (fun _ => trivial) (by rfl) (by kernel_rfl) hS (.inl ⟨by kernel_rfl, fun w1 ⟨k0, k1, k2, k3, e0, e1, e2, e3⟩ => ?qady13⟩) ?_
        case qady13 => (go_simp; try first | rfl | (rw [if_pos (by omega)]) | (rw [if_neg (by omega)]) | (rw [if_neg (by simp; omega)]) | (split <;> first | (exfalso; omega) | rfl))
        refine takeH 14 (v := ?qadv14) (fun _ => trivial) (by rfl) (by kernel_rfl) hS (.inl ⟨by kernel_rfl, fun w1 ⟨k0, k1, k2, k3, e0, e1, e2, e3⟩ => ?qady14⟩) ?_
        case qady14 => (go_simp; try first | rfl | (rw [if_pos (by omega)]) | (rw [if_neg (by omega)]) | (rw [if_neg (by simp; omega)]) | (split <;> first | (exfalso; omega) | rfl))
        refine takeH 15 (v := ?qadv15) (fun _ => trivial) (by rfl) (by kernel_rfl) hS (.inl ⟨by kernel_rfl, fun w1 ⟨k0, k1, k2, k3, e0, e1, e2, e3⟩ => ?qady15⟩) ?_
        case qady15 => (go_simp; try first | rfl | (rw [if_pos (by omega)]) | (rw [if_neg (by omega)]) | (rw [if_neg (by simp; omega)]) | (split <;> first | (exfalso; omega) | rfl))
        refine takeH 16 (v := ?qadv16) (fun _ => trivial) (by rfl) (by kernel_rfl) hS (.inl ⟨by kernel_rfl, fun w1 ⟨k0, k1, k2, k3, e0, e1, e2, e3⟩ => ?qady16⟩) ?_
        case qady16 => (go_simp; try first | rfl | (rw [if_pos (by omega)]) | (rw [if_neg (by omega)]) | (rw [if_neg (by simp; omega)]) | (split <;> first | (exfalso; omega) | rfl))
        simp only [Act.put, List.setIfInBounds_toArray, List.set_cons_succ, List.set_cons_zero]
        refine takeH 17 (v := ?qadv17) (fun _ => trivial) (by rfl) (by kernel_rfl) hS (.inl ⟨by kernel_rfl, fun w1 ⟨k0, k1, k2, k3, e0, e1, e2, e3⟩ => ?qady17⟩) ?_
        case qady17 => (go_simp; try first | rfl | (rw [if_pos (by omega)]) | (rw [if_neg (by omega)]) | (rw [if_neg (by simp; omega)]) | (split <;> first | (exfalso; omega) | rfl))
        refine takeH 18 (v := ?qadv18) (fun _ => trivial) (by rfl) (by kernel_rfl) hS (.inl ⟨by kernel_rfl, fun w1 ⟨k0, k1, k2, k3, e0, e1, e2, e3⟩ => ?qady18⟩) ?_
        case qady18 => (go_simp; try first | rfl | (rw [if_pos (by omega)]) | (rw [if_neg (by omega)]) | (rw [if_neg (by simp; omega)]) | (split <;> first | (exfalso; omega) | rfl))
        refine takeH 19 (v := ?qadv19) (fun _ => trivial) (by rfl) (by kernel_rfl) hS (.inl ⟨by kernel_rfl, fun w1 ⟨k0, k1, k2, k3, e0, e1, e2, e3⟩ => ?qady19⟩) ?_
        case qady19 => (go_simp; try first | rfl | (rw [if_pos (by omega)]) | (rw [if_neg (by omega)]) | (rw [if_neg (by simp; omega)]) | (split <;> first | (exfalso; omega) | rfl))
        refine takeH 20 (v := ?qadv20) (fun _ => trivial) (by rfl) (by kernel_rfl) hS (.inl ⟨by kernel_rfl, fun w1 ⟨k0, k1, k2, k3, e0, e1, e2, e3⟩ => ?qady20⟩) ?_
        case qady20 => (go_simp; try first | rfl | (rw [if_pos (by omega)]) | (rw [if_neg (by omega)]) | (rw [if_neg (by simp; omega)]) | (split <;> first | (exfalso; omega) | rfl))
        refine takeH 21 (v := ?qadv21) (fun _ => trivial) (by rfl) (by kernel_rfl) hS (.inl ⟨by kernel_rfl, fun w1 ⟨k0, k1, k2, k3, e0, e1, e2, e3⟩ => ?qady21⟩) ?_
        case qady21 => (go_simp; try first | rfl | (rw [if_pos (by omega)]) | (rw [if_neg (by omega)]) | (rw [if_neg (by simp; omega)]) | (split <;> first | (exfalso; omega) | rfl))
        refine takeH 22 (v := ?qadv22) (fun _ => trivial) (by rfl) (by kernel_rfl) hS (.inl ⟨by kernel_rfl, fun w1 ⟨k0, k1, k2, k3, e0, e1, e2, e3⟩ => ?qady22⟩) ?_
        case qady22 => (go_simp; try first | rfl | (rw [if_pos (by omega)]) | (rw [if_neg (by omega)]) | (rw [if_neg (by simp; omega)]) | (split <;> first | (exfalso; omega) | rfl))
        refine takeH 23 (v := ?qadv23) (fun _ => trivial) (by rfl) (by kernel_rfl) hS (.inl ⟨by kernel_rfl, fun w1 ⟨k0, k1, k2, k3, e0, e1, e2, e3⟩ => ?qady23⟩) ?_
        case qady23 => (go_simp; try first | rfl | (rw [if_pos (by omega)]) | (rw [if_neg (by omega)]) | (rw [if_neg (by simp; omega)]) | (split <;> first | (exfalso; omega) | rfl))
        refine takeH 24 (v := ?qadv24) (fun _ => trivial) (by rfl) (by kernel_rfl) hS (.inl ⟨by kernel_rfl, fun w1 ⟨k0, k1, k2, k3, e0, e1, e2, e3⟩ => ?qady24⟩) ?_
        case qady24 => (go_simp; try first | rfl | (rw [if_pos (by omega)]) | (rw [if_neg (by omega)]) | (rw [if_neg (by simp; omega)]) | (split <;> first | (exfalso; omega) | rfl))
        simp only [Act.put, List.setIfInBounds_toArray, List.set_cons_succ, List.set_cons_zero]
        refine takeH 25 (v := ?qadv25) (fun _ => trivial) (by rfl) (by kernel_rfl) hS (.inl ⟨by kernel_rfl, fun w1 ⟨k0, k1, k2, k3, e0, e1, e2, e3⟩ => ?qady25⟩) ?_
        case qady25 => (go_simp; try first | rfl | (rw [if_pos (by omega)]) | (rw [if_neg (by omega)]) | (rw [if_neg (by simp; omega)]) | (split <;> first | (exfalso; omega) | rfl))
        refine takeH 26 (v := ?qadv26) (fun _ => trivial) (by rfl) (by kernel_rfl) hS (.inl ⟨by kernel_rfl, fun w1 ⟨k0, k1, k2, k3, e0, e1, e2, e3⟩ => ?qady26⟩) ?_
        case qady26 => (go_simp; try first | rfl | (rw [if_pos (by omega)]) | (rw [if_neg (by omega)]) | (rw [if_neg (by simp; omega)]) | (split <;> first | (exfalso; omega) | rfl))
        refine takeH 27 (v := ?qadv27) (fun _ => trivial) (by rfl) (by kernel_rfl) hS (.inl ⟨by kernel_rfl, fun w1 ⟨k0, k1, k2, k3, e0, e1, e2, e3⟩ => ?qady27⟩) ?_
        case qady27 => (go_simp; try first | rfl | (rw [if_pos (by omega)]) | (rw [if_neg (by omega)]) | (rw [if_neg (by simp; omega)]) | (split <;> first | (exfalso; omega) | rfl))
        refine takeH 28 (v := ?qadv28) (fun _ => trivial) (by rfl) (by kernel_rfl) hS (.inl ⟨by kernel_rfl, fun w1 ⟨k0, k1, k2, k3, e0, e1, e2, e3⟩ => ?qady28⟩) ?_
        case qady28 => (go_simp; try first | rfl | (rw [if_pos (by omega)]) | (rw [if_neg (by omega)]) | (rw [if_neg (by simp; omega)]) | (split <;> first | (exfalso; omega) | rfl))
        refine takeH 29 (v := ?qadv29) (fun _ => trivial) (by rfl) (by kernel_rfl) hS (.inl ⟨by kernel_rfl, fun w1 ⟨k0, k1, k2, k3, e0, e1, e2, e3⟩ => ?qady29⟩) ?_
        case qady29 => (go_simp; try first | rfl | (rw [if_pos (by omega)]) | (rw [if_neg (by omega)]) | (rw [if_neg (by simp; omega)]) | (split <;> first | (exfalso; omega) | rfl))
        simp only [Act.put, List.setIfInBounds_toArray, List.set_cons_succ, List.set_cons_zero]
        refine doneH (by kernel_rfl) ?_
        have HBD3 := Lib.hid (below5 HBN.out HBD.out)
        have e0 : wd.cell? e = some _ := hS.2.2.2.2.1
        have HTY := Lib.hid (types_any (w0 := wd) (.slice oo l0.length co) (.slice po no qo) l x.1.2.owner (below5 HB23.out HBD3.out) (HRC3.out _ HBD3.out) (by omega) (HRO3.out _ HBD3.out) x.2.2.owner)
        obtain ⟨ts, hts⟩ : ∃ ts, Rs.types (plE l) x.1.2.owner = ts := ⟨_, rfl⟩
        have hmem := HF3.out
        have htl := Rs.types_len (plE l) x.1.2.owner
        rw [plE_len] at htl
        rw [hts] at HTY hmem htl
        rw [HNX.out] at hmem
        have HMEM := Lib.hid hmem
        clear hS hmem hts
        gi_wp2_with fail
        refine (callsIn_wide.2 HTY.out).mono ?_
        rintro e7 we ⟨v7, rfl, r7, b7⟩
        obtain ⟨o7, c7, rfl, h71, h72⟩ := r7.form
        rw [List.length_map] at h71 ⊢
        have HBE := Lib.hid (below5 HBD3.out b7)
        have HR7 := Lib.hid r7
        have h72' : c7 ≤ 9223372036854775807 := by unfold maxLen at h72; omega
        have htz : (ts.length : Int) ≤ 60 := by omega
        clear r7 b7 e0 HTY h72
        gi_wp2_with fail
        gi_loopw [9, 10] (fun v9 v10 W => ∃ k : Nat, k ≤ ts.length ∧ v10 = .int .i64 k ∧ v9 = .bool ((ts.take k).any (· == nx)) ∧ Below we.heap.size we W) (fun _ v10 _ => ts.length - (intOf v10).toNat)
        case atStart => exact ⟨0, Nat.zero_le _, rfl, rfl, Below.refl _ _⟩
        case round =>
          obtain ⟨k, hk, rfl, rfl, hb⟩ := hrel
          by_cases hkt : k < ts.length
          · have hkz : (k : Int) < (ts.length : Int) := by omega
            obtain ⟨a7, rfl, t7⟩ := HR7.out.cells _ hb k (by rw [List.length_map]; exact hkt)
            rw [List.getElem_map] at t7
            have hat := any_take (t := nx) k hkt
            obtain ⟨tk, htk⟩ : ∃ tk, ts[k] = tk := ⟨_, rfl⟩
            rw [htk] at t7 hat
            obtain ⟨bk, hbk⟩ : ∃ bk, (ts.take k).any (· == nx) = bk := ⟨_, rfl⟩
            rw [hbk] at hat ⊢
            have HAT := Lib.hid hat
            have HB7 := Lib.hid hb
            obtain ⟨e0, e1, e2, e3⟩ := HCE.out _ (below5 HBE.out hb)
            obtain ⟨e9, he9⟩ : ∃ q, a7.add k = q := ⟨_, rfl⟩
            rw [he9] at t7
            clear hat htk hbk hb
            gi_wp2_with fail
            refine drawnH (List.range 13) (fun w' => w'.cell? e9 = some (.int .i64 tk) ∧ w'.cell? ⟨e.block, e.off + 1, none⟩ = some (.int .i64 nx)) 14 rfl (by kernel_rfl) ?_
            intro wf hwf
            have hS : wf.cell? e9 = some (.int .i64 tk) ∧ wf.cell? ⟨e.block, e.off + 1, none⟩ = some (.int .i64 nx) := by subst hwf; exact ⟨t7, e1⟩
            have HBF : Hid (Below we.heap.size we wf) := by subst hwf; exact HB7.out.drew
            clear hwf e0 e1 e2 e3 t7
            cases bk with
            | true =>
              refine takeH 0 (v := ?qaev0) (fun _ => trivial) (by rfl) (by kernel_rfl) hS (.inl ⟨by kernel_rfl, fun w1 ⟨t7, e1⟩ => ?qaey0⟩) ?_
              case qaey0 => (go_simp; try first | rfl | (rw [if_pos (by omega)]) | (rw [if_neg (by omega)]) | (rw [if_neg (by simp; omega)]) | (split <;> first | (exfalso; omega) | rfl))
              refine takeH 1 (v := ?qaev1) (fun _ => trivial) (by rfl) (by kernel_rfl) hS (.inl ⟨by kernel_rfl, fun w1 ⟨t7, e1⟩ => ?qaey1⟩) ?_
              case qaey1 => (go_simp; try first | rfl | (rw [if_pos (by omega)]) | (rw [if_neg (by omega)]) | (rw [if_neg (by simp; omega)]) | (split <;> first | (exfalso; omega) | rfl))
              simp only [Act.put, List.setIfInBounds_toArray, List.set_cons_succ, List.set_cons_zero]
              refine takeH 2 (v := undef) (fun _ => trivial) (by rfl) (by kernel_rfl) hS (.inr ⟨by kernel_rfl, rfl⟩) ?_
              refine takeH 3 (v := undef) (fun _ => trivial) (by rfl) (by kernel_rfl) hS (.inr ⟨by kernel_rfl, rfl⟩) ?_
              refine takeH 4 (v := undef) (fun _ => trivial) (by rfl) (by kernel_rfl) hS (.inr ⟨by kernel_rfl, rfl⟩) ?_
              refine takeH 5 (v := undef) (fun _ => trivial) (by rfl) (by kernel_rfl) hS (.inr ⟨by kernel_rfl, rfl⟩) ?_
              refine takeH 6 (v := undef) (fun _ => trivial) (by rfl) (by kernel_rfl) hS (.inr ⟨by kernel_rfl, rfl⟩) ?_
              refine takeH 7 (v := undef) (fun _ => trivial) (by rfl) (by kernel_rfl) hS (.inr ⟨by kernel_rfl, rfl⟩) ?_
              refine takeH 8 (v := undef) (fun _ => trivial) (by rfl) (by kernel_rfl) hS (.inr ⟨by kernel_rfl, rfl⟩) ?_
              refine takeH 9 (v := undef) (fun _ => trivial) (by rfl) (by kernel_rfl) hS (.inr ⟨by kernel_rfl, rfl⟩) ?_
              refine takeH 10 (v := undef) (fun _ => trivial) (by rfl) (by kernel_rfl) hS (.inr ⟨by kernel_rfl, rfl⟩) ?_
              refine takeH 11 (v := undef) (fun _ => trivial) (by rfl) (by kernel_rfl) hS (.inr ⟨by kernel_rfl, rfl⟩) ?_
              simp only [Act.put, List.setIfInBounds_toArray, List.set_cons_succ, List.set_cons_zero]
              refine takeH 12 (v := ?qaev12) (fun _ => trivial) (by rfl) (by kernel_rfl) hS (.inl ⟨by kernel_rfl, fun w1 ⟨t7, e1⟩ => ?qaey12⟩) ?_
              case qaey12 => (go_simp; try first | rfl | (rw [if_pos (by omega)]) | (rw [if_neg (by omega)]) | (rw [if_neg (by simp; omega)]) | (split <;> first | (exfalso; omega) | rfl))
              simp only [Act.put, List.setIfInBounds_toArray, List.set_cons_succ, List.set_cons_zero]
              refine oneH 13 (by rfl) (by kernel_rfl) (fun K hK => ?_)
              gi_wp2_with fail
              refine hK _ _ (fun h => absurd h (by decide)) ?_
              clear hK K
              refine doneH (by kernel_rfl) ?_
              gi_wp2_with fail
              exact ⟨⟨k + 1, hkt, by go_num, by rw [HAT.out]; rfl, HBF.out⟩, by simp [intOf]; omega⟩
            | false =>
              refine takeH 0 (v := ?qafv0) (fun _ => trivial) (by rfl) (by kernel_rfl) hS (.inl ⟨by kernel_rfl, fun w1 ⟨t7, e1⟩ => ?qafy0⟩) ?_
              case qafy0 => (go_simp; try first | rfl | (rw [if_pos (by omega)]) | (rw [if_neg (by omega)]) | (rw [if_neg (by simp; omega)]) | (split <;> first | (exfalso; omega) | rfl))
              refine takeH 1 (v := ?qafv1) (fun _ => trivial) (by rfl) (by kernel_rfl) hS (.inl ⟨by kernel_rfl, fun w1 ⟨t7, e1⟩ => ?qafy1⟩) ?_
              case qafy1 => (go_simp; try first | rfl | (rw [if_pos (by omega)]) | (rw [if_neg (by omega)]) | (rw [if_neg (by simp; omega)]) | (split <;> first | (exfalso; omega) | rfl))
              refine takeH 2 (v := ?qafv2) (fun _ => trivial) (by rfl) (by kernel_rfl) hS (.inl ⟨by kernel_rfl, fun w1 ⟨t7, e1⟩ => ?qafy2⟩) ?_
              case qafy2 => (go_simp; try first | rfl | (rw [if_pos (by omega)]) | (rw [if_neg (by omega)]) | (rw [if_neg (by simp; omega)]) | (split <;> first | (exfalso; omega) | rfl))
              refine takeH 3 (v := ?qafv3) (fun _ => trivial) (by rfl) (by kernel_rfl) hS (.inl ⟨by kernel_rfl, fun w1 ⟨t7, e1⟩ => ?qafy3⟩) ?_
              case qafy3 => (go_simp; try first | rfl | (rw [if_pos (by omega)]) | (rw [if_neg (by omega)]) | (rw [if_neg (by simp; omega)]) | (split <;> first | (exfalso; omega) | rfl))
              refine takeH 4 (v := ?qafv4) (fun _ => trivial) (by rfl) (by kernel_rfl) hS (.inl ⟨by kernel_rfl, fun w1 ⟨t7, e1⟩ => ?qafy4⟩) ?_
              case qafy4 => (go_simp; try first | rfl | (rw [if_pos (by omega)]) | (rw [if_neg (by omega)]) | (rw [if_neg (by simp; omega)]) | (split <;> first | (exfalso; omega) | rfl))
              refine takeH 5 (v := ?qafv5) (fun _ => trivial) (by rfl) (by kernel_rfl) hS (.inl ⟨by kernel_rfl, fun w1 ⟨t7, e1⟩ => ?qafy5⟩) ?_
              case qafy5 => (go_simp; try first | rfl | (rw [if_pos (by omega)]) | (rw [if_neg (by omega)]) | (rw [if_neg (by simp; omega)]) | (split <;> first | (exfalso; omega) | rfl))
              refine takeH 6 (v := ?qafv6) (fun _ => trivial) (by rfl) (by kernel_rfl) hS (.inl ⟨by kernel_rfl, fun w1 ⟨t7, e1⟩ => ?qafy6⟩) ?_
              case qafy6 => (go_simp; try first | rfl | (rw [if_pos (by omega)]) | (rw [if_neg (by omega)]) | (rw [if_neg (by simp; omega)]) | (split <;> first | (exfalso; omega) | rfl))
              refine takeH 7 (v := ?qafv7) (fun _ => trivial) (by rfl) (by kernel_rfl) hS (.inl ⟨by kernel_rfl, fun w1 ⟨t7, e1⟩ => ?qafy7⟩) ?_
              case qafy7 => (go_simp; try first | rfl | (rw [if_pos (by omega)]) | (rw [if_neg (by omega)]) | (rw [if_neg (by simp; omega)]) | (split <;> first | (exfalso; omega) | rfl))
              simp only [Act.put, List.setIfInBounds_toArray, List.set_cons_succ, List.set_cons_zero]
              refine takeH 8 (v := ?qafv8) (fun _ => trivial) (by rfl) (by kernel_rfl) hS (.inl ⟨by kernel_rfl, fun w1 ⟨t7, e1⟩ => ?qafy8⟩) ?_
              case qafy8 => (go_simp; try first | rfl | (rw [if_pos (by omega)]) | (rw [if_neg (by omega)]) | (rw [if_neg (by simp; omega)]) | (split <;> first | (exfalso; omega) | rfl))
              refine takeH 9 (v := ?qafv9) (fun _ => trivial) (by rfl) (by kernel_rfl) hS (.inl ⟨by kernel_rfl, fun w1 ⟨t7, e1⟩ => ?qafy9⟩) ?_
              case qafy9 => (go_simp; try first | rfl | (rw [if_pos (by omega)]) | (rw [if_neg (by omega)]) | (rw [if_neg (by simp; omega)]) | (split <;> first | (exfalso; omega) | rfl))
              refine takeH 10 (v := ?qafv10) (fun _ => trivial) (by rfl) (by kernel_rfl) hS (.inl ⟨by kernel_rfl, fun w1 ⟨t7, e1⟩ => ?qafy10⟩) ?_
              case qafy10 => (go_simp; try first | rfl | (rw [if_pos (by omega)]) | (rw [if_neg (by omega)]) | (rw [if_neg (by simp; omega)]) | (split <;> first | (exfalso; omega) | rfl))
              refine takeH 11 (v := ?qafv11) (fun _ => trivial) (by rfl) (by kernel_rfl) hS (.inl ⟨by kernel_rfl, fun w1 ⟨t7, e1⟩ => ?qafy11⟩) ?_
              case qafy11 => (go_simp; try first | rfl | (rw [if_pos (by omega)]) | (rw [if_neg (by omega)]) | (rw [if_neg (by simp; omega)]) | (split <;> first | (exfalso; omega) | rfl))
              refine takeH 12 (v := ?qafv12) (fun _ => trivial) (by rfl) (by kernel_rfl) hS (.inl ⟨by kernel_rfl, fun w1 ⟨t7, e1⟩ => ?qafy12⟩) ?_
              case qafy12 => (go_simp; try first | rfl | (rw [if_pos (by omega)]) | (rw [if_neg (by omega)]) | (rw [if_neg (by simp; omega)]) | (split <;> first | (exfalso; omega) | rfl))
              simp only [Act.put, List.setIfInBounds_toArray, List.set_cons_succ, List.set_cons_zero]
              refine oneH 13 (by rfl) (by kernel_rfl) (fun K hK => ?_)
              gi_wp2_with fail
              refine hK _ _ (fun h => absurd h (by decide)) ?_
              clear hK K
              refine doneH (by kernel_rfl) ?_
              gi_wp2_with fail
              exact ⟨⟨k + 1, hkt, by go_num, by rw [HAT.out, Bool.false_or], HBF.out⟩, by simp [intOf]; omega⟩
          · have hkz : ¬ ((k : Int) < (ts.length : Int)) := by omega
            obtain rfl : k = ts.length := by omega
            have hall : (ts.take ts.length).any (· == nx) = true := by rw [List.take_length, List.any_eq_true]; exact ⟨nx, HMEM.out, by simp⟩
            rw [hall]
            have HBG := Lib.hid (below5 HBE.out hb)
            clear hall hb
            gi_wp2_with fail
            exact ⟨⟨i + 1, hlt, by go_num, by rw [HFL.out]; go_num, HBG.out⟩, by simp [intOf]; omega⟩
      · gi_wp2_with fail
        obtain ⟨wz, hwz⟩ : ∃ W, wa.alloc (.cells #[.slice none 0 0, .int .i64 0, .int .u32 0, .slice none 0 0] 54) = W := ⟨_, rfl⟩
        have hbz : Below w3.heap.size w3 wz := by rw [← hwz]; exact HBA.out.alloc HBA.out.size _
        have hkz : Blk wa.heap.size #[.slice none 0 0, .int .i64 0, .int .u32 0, .slice none 0 0] 54 wz := by rw [← hwz]; exact Blk.new wa _ _
        obtain ⟨bx, hbx⟩ : ∃ b, wa.heap.size = b := ⟨_, rfl⟩
        rw [hwz, hbx]
        rw [hbx] at hkz
        have hbx3 : w3.heap.size ≤ bx := by rw [← hbx]; exact HBA.out.size
        refine hK _ _ (fun _ => HSC.out _ hbz) ?_
        clear hK K hS
        have HBZ := Lib.hid hbz
        have HKZ := Lib.hid hkz
        have HOF := Lib.hid (rsetOf_any (w0 := wz) (.slice oo l0.length co) (.slice po no qo) l x.1.2.owner nx (below5 HB23.out hbz) (HRC3.out _ hbz) (by omega) (HRO3.out _ hbz) x.2.2.owner)
        clear hbz hkz hwz hbx
        refine oneH 11 (by rfl) (by kernel_rfl) (fun K hK => ?_)
        gi_wp2_with (gi_at_call 34; refine (callsIn_wide.2 HOF.out).mono ?_; rintro e5 wb ⟨cc, vv, hcc, _, rfl, hov, b5⟩)
        have hSb := HSC.out wb (below5 HBZ.out b5)
        refine hK _ _ (fun h => absurd h (by decide)) ?_
        clear hK K HOF
        obtain ⟨oo2, no2, co2, of2, cf2, rfl, hd2, hpc, hie⟩ := HOV.out cc wb vv hcc hov
        rw [hie]
        simp only [Bool.not_false]
        have HBB := Lib.hid (below5 HBZ.out b5)
        have HD2 := Lib.hid hd2
        have HPC := Lib.hid hpc
        have HKB := Lib.hid (HKZ.out.below b5)
        have hS := hSb
        have hbb : w3.heap.size ≤ wb.heap.size := HBB.out.size
        clear hSb hcc hov b5 hd2 hpc hie HOV
        refine takeH 12 (v := ?qfv12) (fun _ => trivial) (by rfl) (by kernel_rfl) hS (.inl ⟨by kernel_rfl, fun w1 ⟨e0, e1⟩ => ?qfy12⟩) ?_
        case qfy12 => (go_simp; try first | rfl | (rw [if_pos (by omega)]) | (rw [if_neg (by omega)]) | (rw [if_neg (by simp; omega)]) | (split <;> first | (exfalso; omega) | rfl))
        refine takeH 13 (v := ?qfv13) (fun _ => trivial) (by rfl) (by kernel_rfl) hS (.inl ⟨by kernel_rfl, fun w1 ⟨e0, e1⟩ => ?qfy13⟩) ?_
        case qfy13 => (go_simp; try first | rfl | (rw [if_pos (by omega)]) | (rw [if_neg (by omega)]) | (rw [if_neg (by simp; omega)]) | (split <;> first | (exfalso; omega) | rfl))
        refine takeH 14 (v := ?qfv14) (fun _ => trivial) (by rfl) (by kernel_rfl) hS (.inl ⟨by kernel_rfl, fun w1 ⟨e0, e1⟩ => ?qfy14⟩) ?_
        case qfy14 => (go_simp; try first | rfl | (rw [if_pos (by omega)]) | (rw [if_neg (by omega)]) | (rw [if_neg (by simp; omega)]) | (split <;> first | (exfalso; omega) | rfl))
        simp only [Act.put, List.setIfInBounds_toArray, List.set_cons_succ, List.set_cons_zero]
        have z0 : wb.cell? ⟨bx, 0, none⟩ = some _ := HKB.out.cell 0
        have z1 : wb.cell? ⟨bx, 1, none⟩ = some _ := HKB.out.cell 1
        have z2 : wb.cell? ⟨bx, 2, none⟩ = some _ := HKB.out.cell 2
        have z3 : wb.cell? ⟨bx, 3, none⟩ = some _ := HKB.out.cell 3
        have y0 := HKB.out.frozen 0
        have y1 := HKB.out.frozen 1
        have y2 := HKB.out.frozen 2
        have y3 := HKB.out.frozen 3
        refine oneH 16 (by rfl) (by kernel_rfl) (fun K hK => ?_)
        gi_wp2_with fail
        refine hK _ _ (fun _ => HSC.out _ ((((HBB.out.setCell (p := ⟨bx, 0, none⟩) hbx3 _).setCell (p := ⟨bx, 1, none⟩) hbx3 _).setCell (p := ⟨bx, 2, none⟩) hbx3 _).setCell (p := ⟨bx, 3, none⟩) hbx3 _)) ?_
        clear hK K hS z0 z1 z2 z3 y0 y1 y2 y3
        refine oneH 17 (by rfl) (by kernel_rfl) (fun K hK => ?_)
        gi_wp2_with fail
        refine hK _ _ (fun h => absurd h (by decide)) ?_
        clear hK K
        refine doneH (by kernel_rfl) ?_
        obtain ⟨wn, hwn⟩ : ∃ W, (((wb.setCell ⟨bx, 0, none⟩ (.slice oo2 no2 co2)).setCell ⟨bx, 1, none⟩ (.int .i64 nx)).setCell ⟨bx, 2, none⟩ (.int .u32 (tt : Int))).setCell ⟨bx, 3, none⟩ (.slice of2 m cf2) = W := ⟨_, rfl⟩
        have HKX : Hid (Blk bx #[.slice oo2 no2 co2, .int .i64 nx, .int .u32 (tt : Int), .slice of2 m cf2] 54 wn) := by
          show Blk _ _ _ _
          rw [← hwn]; exact (((HKB.out.setAt 0 _).setAt 1 _).setAt 2 _).setAt 3 _
        have HBN : Hid (Below w3.heap.size w3 wn) := by
          show Below _ _ _
          rw [← hwn]
          exact (((HBB.out.setCell (p := ⟨bx, 0, none⟩) hbx3 _).setCell (p := ⟨bx, 1, none⟩) hbx3 _).setCell (p := ⟨bx, 2, none⟩) hbx3 _).setCell (p := ⟨bx, 3, none⟩) hbx3 _
        have HDN : Hid (DatsRd (.slice of2 m cf2) cc wn) := by
          show DatsRd _ _ _
          have ho := HD2.out.off hm0 HKB.out
          rw [← hwn]
          exact (((HD2.out.set ho _).set ho _).set ho _).set ho _
        rw [hwn]
        clear hwn HBB HD2 HKB HKZ HBZ hbb
        have HSE : Hid (∀ w', Below wn.heap.size wn w' → w'.cell? ⟨bx, 0, none⟩ = some (.slice oo2 no2 co2) ∧ w'.cell? ⟨bx, 1, none⟩ = some (.int .i64 nx) ∧ w'.cell? ⟨bx, 2, none⟩ = some (.int .u32 (tt : Int)) ∧ w'.cell? ⟨bx, 3, none⟩ = some (.slice of2 m cf2) ∧ w'.cell? e = some (.slice po no qo) ∧ w'.cell? ⟨e.block, e.off + 1, none⟩ = some (.int .i64 nx) ∧ w'.cell? ⟨e.block, e.off + 2, none⟩ = some (.int .u32 (tt : Int)) ∧ w'.cell? ⟨e.block, e.off + 3, none⟩ = some (.slice od m cd)) := fun w' hW => ⟨(HKX.out.below hW).cell 0, (HKX.out.below hW).cell 1, (HKX.out.below hW).cell 2, (HKX.out.below hW).cell 3, HCE.out w' (below5 HBN.out hW)⟩
        have hm00 : ((m : Int) == 0) = false := by rw [beq_eq_false_iff_ne]; omega
        have hm01 : decide (m = 0) = false := by rw [decide_eq_false_iff_not]; omega
        gi_wp2_with fail
        refine drawnH (List.range 30) (fun w' => w'.cell? ⟨bx, 0, none⟩ = some (.slice oo2 no2 co2) ∧ w'.cell? ⟨bx, 1, none⟩ = some (.int .i64 nx) ∧ w'.cell? ⟨bx, 2, none⟩ = some (.int .u32 (tt : Int)) ∧ w'.cell? ⟨bx, 3, none⟩ = some (.slice of2 m cf2) ∧ w'.cell? e = some (.slice po no qo) ∧ w'.cell? ⟨e.block, e.off + 1, none⟩ = some (.int .i64 nx) ∧ w'.cell? ⟨e.block, e.off + 2, none⟩ = some (.int .u32 (tt : Int)) ∧ w'.cell? ⟨e.block, e.off + 3, none⟩ = some (.slice od m cd)) 30 rfl (by kernel_rfl) ?_
        intro wc hwc
        have hbc : Below wn.heap.size wn wc := by subst hwc; exact (Below.refl _ _).drew
        have hS := HSE.out wc hbc
        have HEQ := Lib.hid (setEqual_any (w0 := wc) oo2 no2 co2 nx tt po no qo nx tt (.slice of2 m cf2) (.slice od m cd) cc (x :: xs) (below5 HB23.out (below5 HBN.out hbc)) (HDN.out.below hbc) (HDT.out.below (below5 HBN.out hbc)) (by have h1 := congrArg List.length HPC.out; rw [plE_len, plE_len, HM.out] at h1; omega) (by rw [HM.out]; omega))
        rw [HPC.out, Rs.sameDats_refl] at HEQ
        have HBC := Lib.hid hbc
        clear hwc hbc
        refine takeH 0 (v := ?qbcv0) (fun _ => trivial) (by rfl) (by kernel_rfl) hS (.inl ⟨by kernel_rfl, fun w1 ⟨k0, k1, k2, k3, e0, e1, e2, e3⟩ => ?qbcy0⟩) ?_
        case qbcy0 => (go_simp; try first | rfl | (rw [if_pos (by omega)]) | (rw [if_neg (by omega)]) | (rw [if_neg (by simp; omega)]) | (split <;> first | (exfalso; omega) | rfl))
        refine takeH 1 (v := ?qbcv1) (fun _ => trivial) (by rfl) (by kernel_rfl) hS (.inl ⟨by kernel_rfl, fun w1 ⟨k0, k1, k2, k3, e0, e1, e2, e3⟩ => ?qbcy1⟩) ?_
        case qbcy1 => (go_simp; try first | rfl | (rw [if_pos (by omega)]) | (rw [if_neg (by omega)]) | (rw [if_neg (by simp; omega)]) | (split <;> first | (exfalso; omega) | rfl))
        refine takeH 2 (v := ?qbcv2) (fun _ => trivial) (by rfl) (by kernel_rfl) hS (.inl ⟨by kernel_rfl, fun w1 ⟨k0, k1, k2, k3, e0, e1, e2, e3⟩ => ?qbcy2⟩) ?_
        case qbcy2 => (go_simp; try first | rfl | (rw [if_pos (by omega)]) | (rw [if_neg (by omega)]) | (rw [if_neg (by simp; omega)]) | (split <;> first | (exfalso; omega) | rfl))
        refine takeH 3 (v := ?qbcv3) (fun _ => trivial) (by rfl) (by kernel_rfl) hS (.inl ⟨by kernel_rfl, fun w1 ⟨k0, k1, k2, k3, e0, e1, e2, e3⟩ => ?qbcy3⟩) ?_
        case qbcy3 => (go_simp; try first | rfl | (rw [if_pos (by omega)]) | (rw [if_neg (by omega)]) | (rw [if_neg (by simp; omega)]) | (split <;> first | (exfalso; omega) | rfl))
        refine takeH 4 (v := ?qbcv4) (fun _ => trivial) (by rfl) (by kernel_rfl) hS (.inl ⟨by kernel_rfl, fun w1 ⟨k0, k1, k2, k3, e0, e1, e2, e3⟩ => ?qbcy4⟩) ?_
        case qbcy4 => (go_simp; try first | rfl | (rw [if_pos (by omega)]) | (rw [if_neg (by omega)]) | (rw [if_neg (by simp; omega)]) | (split <;> first | (exfalso; omega) | rfl))
        refine takeH 5 (v := ?qbcv5) (fun _ => trivial) (by rfl) (by kernel_rfl) hS (.inl ⟨by kernel_rfl, fun w1 ⟨k0, k1, k2, k3, e0, e1, e2, e3⟩ => ?qbcy5⟩) ?_
        case qbcy5 => (go_simp; try first | rfl | (rw [if_pos (by omega)]) | (rw [if_neg (by omega)]) | (rw [if_neg (by simp; omega)]) | (split <;> first | (exfalso; omega) | rfl))
        refine takeH 6 (v := ?qbcv6) (fun _ => trivial) (by rfl) (by kernel_rfl) hS (.inl ⟨by kernel_rfl, fun w1 ⟨k0, k1, k2, k3, e0, e1, e2, e3⟩ => ?qbcy6⟩) ?_
        case qbcy6 => (go_simp; try first | rfl | (rw [if_pos (by omega)]) | (rw [if_neg (by omega)]) | (rw [if_neg (by simp; omega)]) | (split <;> first | (exfalso; omega) | rfl))
        refine takeH 7 (v := ?qbcv7) (fun _ => trivial) (by rfl) (by kernel_rfl) hS (.inl ⟨by kernel_rfl, fun w1 ⟨k0, k1, k2, k3, e0, e1, e2, e3⟩ => ?qbcy7⟩) ?_
        case qbcy7 => (go_simp; try first | rfl | (rw [if_pos (by omega)]) | (rw [if_neg (by omega)]) | (rw [if_neg (by simp; omega)]) | (split <;> first | (exfalso; omega) | rfl))
        simp only [Act.put, List.setIfInBounds_toArray, List.set_cons_succ, List.set_cons_zero]
        refine oneH 8 (by rfl) (by kernel_rfl) (fun K hK => ?_)
        gi_wp2_with (gi_at_call 40; refine (callsIn_wide.2 HEQ.out).mono ?_; rintro e6 wd ⟨rfl, b6⟩)
        have HBD := Lib.hid (below5 HBC.out b6)
        refine hK _ _ (fun _ => HSE.out wd HBD.out) ?_
        clear hK K hS b6 HEQ
        have hS := HSE.out wd HBD.out
        refine takeH 9 (v := ?qbdv9) (fun _ => trivial) (by rfl) (by kernel_rfl) hS (.inl ⟨by kernel_rfl, fun w1 ⟨k0, k1, k2, k3, e0, e1, e2, e3⟩ => ?qbdy9⟩) ?_
        case qbdy9 => (go_simp; try first | rfl | (rw [if_pos (by omega)]) | (rw [if_neg (by omega)]) | (rw [if_neg (by simp; omega)]) | (split <;> first | (exfalso; omega) | rfl))
        refine takeH 10 (v := ?qbdv10) (fun _ => trivial) (by rfl) (by kernel_rfl) hS (.inl ⟨by kernel_rfl, fun w1 ⟨k0, k1, k2, k3, e0, e1, e2, e3⟩ => ?qbdy10⟩) ?_
        case qbdy10 => (go_simp; try first | rfl | (rw [if_pos (by omega)]) | (rw [if_neg (by omega)]) | (rw [if_neg (by simp; omega)]) | (split <;> first | (exfalso; omega) | rfl))
        refine takeH 11 (v := ?qbdv11) (fun _ => trivial) (by rfl) (by kernel_rfl) hS (.inl ⟨by kernel_rfl, fun w1 ⟨k0, k1, k2, k3, e0, e1, e2, e3⟩ => ?qbdy11⟩) ?_
        case qbdy11 => (go_simp; try first | rfl | (rw [if_pos (by omega)]) | (rw [if_neg (by omega)]) | (rw [if_neg (by simp; omega)]) | (split <;> first | (exfalso; omega) | rfl))
        refine takeH 12 (v := ?qbdv12) (fun _ => trivial) (by rfl) (by kernel_rfl) hS (.inl ⟨by kernel_rfl, fun w1 ⟨k0, k1, k2, k3, e0, e1, e2, e3⟩ => ?qbdy12⟩) ?_
        case qbdy12 => (go_simp; try first | rfl | (rw [if_pos (by omega)]) | (rw [if_neg (by omega)]) | (rw [if_neg (by simp; omega)]) | (split <;> first | (exfalso; omega) | rfl))
        refine takeH 13 (v := ?qbdv13) (fun _ => trivial) (by rfl) (by kernel_rfl) hS (.inl ⟨by kernel_rfl, fun w1 ⟨k0, k1, k2, k3, e0, e1, e2, e3⟩ => ?qbdy13⟩) ?_
        case qbdy13 => (go_simp; try first | rfl | (rw [if_pos (by omega)]) | (rw [if_neg (by omega)]) | (rw [if_neg (by simp; omega)]) | (split <;> first | (exfalso; omega) | rfl))
        refine takeH 14 (v := ?qbdv14) (fun _ => trivial) (by rfl) (by kernel_rfl) hS (.inl ⟨by kernel_rfl, fun w1 ⟨k0, k1, k2, k3, e0, e1, e2, e3⟩ => ?qbdy14⟩) ?_
        case qbdy14 => (go_simp; try first | rfl | (rw [if_pos (by omega)]) | (rw [if_neg (by omega)]) | (rw [if_neg (by simp; omega)]) | (split <;> first | (exfalso; omega) | rfl))
        refine takeH 15 (v := ?qbdv15) (fun _ => trivial) (by rfl) (by kernel_rfl) hS (.inl ⟨by kernel_rfl, fun w1 ⟨k0, k1, k2, k3, e0, e1, e2, e3⟩ => ?qbdy15⟩) ?_
        case qbdy15 => (go_simp; try first | rfl | (rw [if_pos (by omega)]) | (rw [if_neg (by omega)]) | (rw [if_neg (by simp; omega)]) | (split <;> first | (exfalso; omega) | rfl))
        refine takeH 16 (v := ?qbdv16) (fun _ => trivial) (by rfl) (by kernel_rfl) hS (.inl ⟨by kernel_rfl, fun w1 ⟨k0, k1, k2, k3, e0, e1, e2, e3⟩ => ?qbdy16⟩) ?_
        case qbdy16 => (go_simp; try first | rfl | (rw [if_pos (by omega)]) | (rw [if_neg (by omega)]) | (rw [if_neg (by simp; omega)]) | (split <;> first | (exfalso; omega) | rfl))
        simp only [Act.put, List.setIfInBounds_toArray, List.set_cons_succ, List.set_cons_zero]
        refine takeH 17 (v := ?qbdv17) (fun _ => trivial) (by rfl) (by kernel_rfl) hS (.inl ⟨by kernel_rfl, fun w1 ⟨k0, k1, k2, k3, e0, e1, e2, e3⟩ => ?qbdy17⟩) ?_
        case qbdy17 => (go_simp; try first | rfl | (rw [if_pos (by omega)]) | (rw [if_neg (by omega)]) | (rw [if_neg (by simp; omega)]) | (split <;> first | (exfalso; omega) | rfl))
        refine takeH 18 (v := ?qbdv18) (fun _ => trivial) (by rfl) (by kernel_rfl) hS (.inl ⟨by kernel_rfl, fun w1 ⟨k0, k1, k2, k3, e0, e1, e2, e3⟩ => ?qbdy18⟩) ?_
        case qbdy18 => (go_simp; try first | rfl | (rw [if_pos (by omega)]) | (rw [if_neg (by omega)]) | (rw [if_neg (by simp; omega)]) | (split <;> first | (exfalso; omega) | rfl))
        refine takeH 19 (v := ?qbdv19) (fun _ => trivial) (by rfl) (by kernel_rfl) hS (.inl ⟨by kernel_rfl, fun w1 ⟨k0, k1, k2, k3, e0, e1, e2, e3⟩ => ?qbdy19⟩) ?_
        case qbdy19 => (go_simp; try first | rfl | (rw [if_pos (by omega)]) | (rw [if_neg (by omega)]) | (rw [if_neg (by simp; omega)]) | (split <;> first | (exfalso; omega) | rfl))
        refine takeH 20 (v := ?qbdv20) (fun _ => trivial) (by rfl) (by kernel_rfl) hS (.inl ⟨by kernel_rfl, fun w1 ⟨k0, k1, k2, k3, e0, e1, e2, e3⟩ => ?qbdy20⟩) ?_
        case qbdy20 => (go_simp; try first | rfl | (rw [if_pos (by omega)]) | (rw [if_neg (by omega)]) | (rw [if_neg (by simp; omega)]) | (split <;> first | (exfalso; omega) | rfl))
        refine takeH 21 (v := ?qbdv21) (fun _ => trivial) (by rfl) (by kernel_rfl) hS (.inl ⟨by kernel_rfl, fun w1 ⟨k0, k1, k2, k3, e0, e1, e2, e3⟩ => ?qbdy21⟩) ?_
        case qbdy21 => (go_simp; try first | rfl | (rw [if_pos (by omega)]) | (rw [if_neg (by omega)]) | (rw [if_neg (by simp; omega)]) | (split <;> first | (exfalso; omega) | rfl))
        refine takeH 22 (v := ?qbdv22) (fun _ => trivial) (by rfl) (by kernel_rfl) hS (.inl ⟨by kernel_rfl, fun w1 ⟨k0, k1, k2, k3, e0, e1, e2, e3⟩ => ?qbdy22⟩) ?_
        case qbdy22 => (go_simp; try first | rfl | (rw [if_pos (by omega)]) | (rw [if_neg (by omega)]) | (rw [if_neg (by simp; omega)]) | (split <;> first | (exfalso; omega) | rfl))
        refine takeH 23 (v := ?qbdv23) (fun _ => trivial) (by rfl) (by kernel_rfl) hS (.inl ⟨by kernel_rfl, fun w1 ⟨k0, k1, k2, k3, e0, e1, e2, e3⟩ => ?qbdy23⟩) ?_
        case qbdy23 => (go_simp; try first | rfl | (rw [if_pos (by omega)]) | (rw [if_neg (by omega)]) | (rw [if_neg (by simp; omega)]) | (split <;> first | (exfalso; omega) | rfl))
        refine takeH 24 (v := ?qbdv24) (fun _ => trivial) (by rfl) (by kernel_rfl) hS (.inl ⟨by kernel_rfl, fun w1 ⟨k0, k1, k2, k3, e0, e1, e2, e3⟩ => ?qbdy24⟩) ?_
        case qbdy24 => (go_simp; try first | rfl | (rw [if_pos (by omega)]) | (rw [if_neg (by omega)]) | (rw [if_neg (by simp; omega)]) | (split <;> first | (exfalso; omega) | rfl))
        simp only [Act.put, List.setIfInBounds_toArray, List.set_cons_succ, List.set_cons_zero]
        refine takeH 25 (v := ?qbdv25) (fun _ => trivial) (by rfl) (by kernel_rfl) hS (.inl ⟨by kernel_rfl, fun w1 ⟨k0, k1, k2, k3, e0, e1, e2, e3⟩ => ?qbdy25⟩) ?_
        case qbdy25 => (go_simp; try first | rfl | (rw [if_pos (by omega)]) | (rw [if_neg (by omega)]) | (rw [if_neg (by simp; omega)]) | (split <;> first | (exfalso; omega) | rfl))
        refine takeH 26 (v := ?qbdv26) (fun _ => trivial) (by rfl) (by kernel_rfl) hS (.inl ⟨by kernel_rfl, fun w1 ⟨k0, k1, k2, k3, e0, e1, e2, e3⟩ => ?qbdy26⟩) ?_
        case qbdy26 => (go_simp; try first | rfl | (rw [if_pos (by omega)]) | (rw [if_neg (by omega)]) | (rw [if_neg (by simp; omega)]) | (split <;> first | (exfalso; omega) | rfl))
        refine takeH 27 (v := ?qbdv27) (fun _ => trivial) (by rfl) (by kernel_rfl) hS (.inl ⟨by kernel_rfl, fun w1 ⟨k0, k1, k2, k3, e0, e1, e2, e3⟩ => ?qbdy27⟩) ?_
        case qbdy27 => (go_simp; try first | rfl | (rw [if_pos (by omega)]) | (rw [if_neg (by omega)]) | (rw [if_neg (by simp; omega)]) | (split <;> first | (exfalso; omega) | rfl))
        refine takeH 28 (v := ?qbdv28) (fun _ => trivial) (by rfl) (by kernel_rfl) hS (.inl ⟨by kernel_rfl, fun w1 ⟨k0, k1, k2, k3, e0, e1, e2, e3⟩ => ?qbdy28⟩) ?_
        case qbdy28 => (go_simp; try first | rfl | (rw [if_pos (by omega)]) | (rw [if_neg (by omega)]) | (rw [if_neg (by simp; omega)]) | (split <;> first | (exfalso; omega) | rfl))
        refine takeH 29 (v := ?qbdv29) (fun _ => trivial) (by rfl) (by kernel_rfl) hS (.inl ⟨by kernel_rfl, fun w1 ⟨k0, k1, k2, k3, e0, e1, e2, e3⟩ => ?qbdy29⟩) ?_
        case qbdy29 => (go_simp; try first | rfl | (rw [if_pos (by omega)]) | (rw [if_neg (by omega)]) | (rw [if_neg (by simp; omega)]) | (split <;> first | (exfalso; omega) | rfl))
        simp only [Act.put, List.setIfInBounds_toArray, List.set_cons_succ, List.set_cons_zero]
        refine doneH (by kernel_rfl) ?_
        have HBD3 := Lib.hid (below5 HBN.out HBD.out)
        have e0 : wd.cell? e = some _ := hS.2.2.2.2.1
        have HTY := Lib.hid (types_any (w0 := wd) (.slice oo l0.length co) (.slice po no qo) l x.1.2.owner (below5 HB23.out HBD3.out) (HRC3.out _ HBD3.out) (by omega) (HRO3.out _ HBD3.out) x.2.2.owner)
        obtain ⟨ts, hts⟩ : ∃ ts, Rs.types (plE l) x.1.2.owner = ts := ⟨_, rfl⟩
        have hmem := HF3.out
        have htl := Rs.types_len (plE l) x.1.2.owner
        rw [plE_len] at htl
        rw [hts] at HTY hmem htl
        rw [HNX.out] at hmem
        have HMEM := Lib.hid hmem
        clear hS hmem hts
        gi_wp2_with fail
        refine (callsIn_wide.2 HTY.out).mono ?_
        rintro e7 we ⟨v7, rfl, r7, b7⟩
        obtain ⟨o7, c7, rfl, h71, h72⟩ := r7.form
        rw [List.length_map] at h71 ⊢
        have HBE := Lib.hid (below5 HBD3.out b7)
        have HR7 := Lib.hid r7
        have h72' : c7 ≤ 9223372036854775807 := by unfold maxLen at h72; omega
        have htz : (ts.length : Int) ≤ 60 := by omega
        clear r7 b7 e0 HTY h72
        gi_wp2_with fail
        gi_loopw [9, 10] (fun v9 v10 W => ∃ k : Nat, k ≤ ts.length ∧ v10 = .int .i64 k ∧ v9 = .bool ((ts.take k).any (· == nx)) ∧ Below we.heap.size we W) (fun _ v10 _ => ts.length - (intOf v10).toNat)
        case atStart => exact ⟨0, Nat.zero_le _, rfl, rfl, Below.refl _ _⟩
        case round =>
          obtain ⟨k, hk, rfl, rfl, hb⟩ := hrel
          by_cases hkt : k < ts.length
          · have hkz : (k : Int) < (ts.length : Int) := by omega
            obtain ⟨a7, rfl, t7⟩ := HR7.out.cells _ hb k (by rw [List.length_map]; exact hkt)
            rw [List.getElem_map] at t7
            have hat := any_take (t := nx) k hkt
            obtain ⟨tk, htk⟩ : ∃ tk, ts[k] = tk := ⟨_, rfl⟩
            rw [htk] at t7 hat
            obtain ⟨bk, hbk⟩ : ∃ bk, (ts.take k).any (· == nx) = bk := ⟨_, rfl⟩
            rw [hbk] at hat ⊢
            have HAT := Lib.hid hat
            have HB7 := Lib.hid hb
            obtain ⟨e0, e1, e2, e3⟩ := HCE.out _ (below5 HBE.out hb)
            obtain ⟨e9, he9⟩ : ∃ q, a7.add k = q := ⟨_, rfl⟩
            rw [he9] at t7
            clear hat htk hbk hb
            gi_wp2_with fail
            refine drawnH (List.range 13) (fun w' => w'.cell? e9 = some (.int .i64 tk) ∧ w'.cell? ⟨e.block, e.off + 1, none⟩ = some (.int .i64 nx)) 14 rfl (by kernel_rfl) ?_
            intro wf hwf
            have hS : wf.cell? e9 = some (.int .i64 tk) ∧ wf.cell? ⟨e.block, e.off + 1, none⟩ = some (.int .i64 nx) := by subst hwf; exact ⟨t7, e1⟩
            have HBF : Hid (Below we.heap.size we wf) := by subst hwf; exact HB7.out.drew
            clear hwf e0 e1 e2 e3 t7
            cases bk with
            | true =>
              refine takeH 0 (v := ?qbev0) (fun _ => trivial) (by rfl) (by kernel_rfl) hS (.inl ⟨by kernel_rfl, fun w1 ⟨t7, e1⟩ => ?qbey0⟩) ?_
              case qbey0 => (go_simp; try first | rfl | (rw [if_pos (by omega)]) | (rw [if_neg (by omega)]) | (rw [if_neg (by simp; omega)]) | (split <;> first | (exfalso; omega) | rfl))
              refine takeH 1 (v := ?qbev1) (fun _ => trivial) (by rfl) (by kernel_rfl) hS (.inl ⟨by kernel_rfl, fun w1 ⟨t7, e1⟩ => ?qbey1⟩) ?_
              case qbey1 => (go_simp; try first | rfl | (rw [if_pos (by omega)]) | (rw [if_neg (by omega)]) | (rw [if_neg (by simp; omega)]) | (split <;> first | (exfalso; omega) | rfl))
              simp only [Act.put, List.setIfInBounds_toArray, List.set_cons_succ, List.set_cons_zero]
              refine takeH 2 (v := undef) (fun _ => trivial) (by rfl) (by kernel_rfl) hS (.inr ⟨by kernel_rfl, rfl⟩) ?_
              refine takeH 3 (v := undef) (fun _ => trivial) (by rfl) (by kernel_rfl) hS (.inr ⟨by kernel_rfl, rfl⟩) ?_
              refine takeH 4 (v := undef) (fun _ => trivial) (by rfl) (by kernel_rfl) hS (.inr ⟨by kernel_rfl, rfl⟩) ?_
              refine takeH 5 (v := undef) (fun _ => trivial) (by rfl) (by kernel_rfl) hS (.inr ⟨by kernel_rfl, rfl⟩) ?_
              refine takeH 6 (v := undef) (fun _ => trivial) (by rfl) (by kernel_rfl) hS (.inr ⟨by kernel_rfl, rfl⟩) ?_
              refine takeH 7 (v := undef) (fun _ => trivial) (by rfl) (by kernel_rfl) hS (.inr ⟨by kernel_rfl, rfl⟩) ?_
              refine takeH 8 (v := undef) (fun _ => trivial) (by rfl) (by kernel_rfl) hS (.inr ⟨by kernel_rfl, rfl⟩) ?_
              refine takeH 9 (v := undef) (fun _ => trivial) (by rfl) (by kernel_rfl) hS (.inr ⟨by kernel_rfl, rfl⟩) ?_
              refine takeH 10 (v := undef) (fun _ => trivial) (by rfl) (by kernel_rfl) hS (.inr ⟨by kernel_rfl, rfl⟩) ?_
              refine takeH 11 (v := undef) (fun _ => trivial) (by rfl) (by kernel_rfl) hS (.inr ⟨by kernel_rfl, rfl⟩) ?_
              simp only [Act.put, List.setIfInBounds_toArray, List.set_cons_succ, List.set_cons_zero]
              refine takeH 12 (v := ?qbev12) (fun _ => trivial) (by rfl) (by kernel_rfl) hS (.inl ⟨by kernel_rfl, fun w1 ⟨t7, e1⟩ => ?qbey12⟩) ?_
              case qbey12 => (go_simp; try first | rfl | (rw [if_pos (by omega)]) | (rw [if_neg (by omega)]) | (rw [if_neg (by simp; omega)]) | (split <;> first | (exfalso; omega) | rfl))
              simp only [Act.put, List.setIfInBounds_toArray, List.set_cons_succ, List.set_cons_zero]
              refine oneH 13 (by rfl) (by kernel_rfl) (fun K hK => ?_)
              gi_wp2_with fail
              refine hK _ _ (fun h => absurd h (by decide)) ?_
              clear hK K
              refine doneH (by kernel_rfl) ?_
              gi_wp2_with fail
              exact ⟨⟨k + 1, hkt, by go_num, by rw [HAT.out]; rfl, HBF.out⟩, by simp [intOf]; omega⟩
            | false =>
              refine takeH 0 (v := ?qbfv0) (fun _ => trivial) (by rfl) (by kernel_rfl) hS (.inl ⟨by kernel_rfl, fun w1 ⟨t7, e1⟩ => ?qbfy0⟩) ?_
              case qbfy0 => (go_simp; try first | rfl | (rw [if_pos (by omega)]) | (rw [if_neg (by omega)]) | (rw [if_neg (by simp; omega)]) | (split <;> first | (exfalso; omega) | rfl))
              refine takeH 1 (v := ?qbfv1) (fun _ => trivial) (by rfl) (by kernel_rfl) hS (.inl ⟨by kernel_rfl, fun w1 ⟨t7, e1⟩ => ?qbfy1⟩) ?_
              case qbfy1 => (go_simp; try first | rfl | (rw [if_pos (by omega)]) | (rw [if_neg (by omega)]) | (rw [if_neg (by simp; omega)]) | (split <;> first | (exfalso; omega) | rfl))
              refine takeH 2 (v := ?qbfv2) (fun _ => trivial) (by rfl) (by kernel_rfl) hS (.inl ⟨by kernel_rfl, fun w1 ⟨t7, e1⟩ => ?qbfy2⟩) ?_
              case qbfy2 => (go_simp; try first | rfl | (rw [if_pos (by omega)]) | (rw [if_neg (by omega)]) | (rw [if_neg (by simp; omega)]) | (split <;> first | (exfalso; omega) | rfl))
              refine takeH 3 (v := ?qbfv3) (fun _ => trivial) (by rfl) (by kernel_rfl) hS (.inl ⟨by kernel_rfl, fun w1 ⟨t7, e1⟩ => ?qbfy3⟩) ?_
              case qbfy3 => (go_simp; try first | rfl | (rw [if_pos (by omega)]) | (rw [if_neg (by omega)]) | (rw [if_neg (by simp; omega)]) | (split <;> first | (exfalso; omega) | rfl))
              refine takeH 4 (v := ?qbfv4) (fun _ => trivial) (by rfl) (by kernel_rfl) hS (.inl ⟨by kernel_rfl, fun w1 ⟨t7, e1⟩ => ?qbfy4⟩) ?_
              case qbfy4 => (go_simp; try first | rfl | (rw [if_pos (by omega)]) | (rw [if_neg (by omega)]) | (rw [if_neg (by simp; omega)]) | (split <;> first | (exfalso; omega) | rfl))
              refine takeH 5 (v := ?qbfv5) (fun _ => trivial) (by rfl) (by kernel_rfl) hS (.inl ⟨by kernel_rfl, fun w1 ⟨t7, e1⟩ => ?qbfy5⟩) ?_
              case qbfy5 => (go_simp; try first | rfl | (rw [if_pos (by omega)]) | (rw [if_neg (by omega)]) | (rw [if_neg (by simp; omega)]) | (split <;> first | (exfalso; omega) | rfl))
              refine takeH 6 (v := ?qbfv6) (fun _ => trivial) (by rfl) (by kernel_rfl) hS (.inl ⟨by kernel_rfl, fun w1 ⟨t7, e1⟩ => ?qbfy6⟩) ?_
              case qbfy6 => (go_simp; try first | rfl | (rw [if_pos (by omega)]) | (rw [if_neg (by omega)]) | (rw [if_neg (by simp; omega)]) | (split <;> first | (exfalso; omega) | rfl))
              refine takeH 7 (v := ?qbfv7) (fun _ => trivial) (by rfl) (by kernel_rfl) hS (.inl ⟨by kernel_rfl, fun w1 ⟨t7, e1⟩ => ?qbfy7⟩) ?_
              case qbfy7 => (go_simp; try first | rfl | (rw [if_pos (by omega)]) | (rw [if_neg (by omega)]) | (rw [if_neg (by simp; omega)]) | (split <;> first | (exfalso; omega) | rfl))
              simp only [Act.put, List.setIfInBounds_toArray, List.set_cons_succ, List.set_cons_zero]
              refine takeH 8 (v := ?qbfv8) (fun _ => trivial) (by rfl) (by kernel_rfl) hS (.inl ⟨by kernel_rfl, fun w1 ⟨t7, e1⟩ => ?qbfy8⟩) ?_
              case qbfy8 => (go_simp; try first | rfl | (rw [if_pos (by omega)]) | (rw [if_neg (by omega)]) | (rw [if_neg (by simp; omega)]) | (split <;> first | (exfalso; omega) | rfl))
              refine takeH 9 (v := ?qbfv9) (fun _ => trivial) (by rfl) (by kernel_rfl) hS (.inl ⟨by kernel_rfl, fun w1 ⟨t7, e1⟩ => ?qbfy9⟩) ?_
              case qbfy9 => (go_simp; try first | rfl | (rw [if_pos (by omega)]) | (rw [if_neg (by omega)]) | (rw [if_neg (by simp; omega)]) | (split <;> first | (exfalso; omega) | rfl))
              refine takeH 10 (v := ?qbfv10) (fun _ => trivial) (by rfl) (by kernel_rfl) hS (.inl ⟨by kernel_rfl, fun w1 ⟨t7, e1⟩ => ?qbfy10⟩) ?_
              case qbfy10 => (go_simp; try first | rfl | (rw [if_pos (by omega)]) | (rw [if_neg (by omega)]) | (rw [if_neg (by simp; omega)]) | (split <;> first | (exfalso; omega) | rfl))
              refine takeH 11 (v := ?qbfv11) (fun _ => trivial) (by rfl) (by kernel_rfl) hS (.inl ⟨by kernel_rfl, fun w1 ⟨t7, e1⟩ => ?qbfy11⟩) ?_
              case qbfy11 => (go_simp; try first | rfl | (rw [if_pos (by omega)]) | (rw [if_neg (by omega)]) | (rw [if_neg (by simp; omega)]) | (split <;> first | (exfalso; omega) | rfl))
              refine takeH 12 (v := ?qbfv12) (fun _ => trivial) (by rfl) (by kernel_rfl) hS (.inl ⟨by kernel_rfl, fun w1 ⟨t7, e1⟩ => ?qbfy12⟩) ?_
              case qbfy12 => (go_simp; try first | rfl | (rw [if_pos (by omega)]) | (rw [if_neg (by omega)]) | (rw [if_neg (by simp; omega)]) | (split <;> first | (exfalso; omega) | rfl))
              simp only [Act.put, List.setIfInBounds_toArray, List.set_cons_succ, List.set_cons_zero]
              refine oneH 13 (by rfl) (by kernel_rfl) (fun K hK => ?_)
              gi_wp2_with fail
              refine hK _ _ (fun h => absurd h (by decide)) ?_
              clear hK K
              refine doneH (by kernel_rfl) ?_
              gi_wp2_with fail
              exact ⟨⟨k + 1, hkt, by go_num, by rw [HAT.out, Bool.false_or], HBF.out⟩, by simp [intOf]; omega⟩
          · have hkz : ¬ ((k : Int) < (ts.length : Int)) := by omega
            obtain rfl : k = ts.length := by omega
            have hall : (ts.take ts.length).any (· == nx) = true := by rw [List.take_length, List.any_eq_true]; exact ⟨nx, HMEM.out, by simp⟩
            rw [hall]
            have HBG := Lib.hid (below5 HBE.out hb)
            clear hall hb
            gi_wp2_with fail
            exact ⟨⟨i + 1, hlt, by go_num, by rw [HFL.out]; go_num, HBG.out⟩, by simp [intOf]; omega⟩
    · have hiz : ¬ ((i : Int) < (gs.length : Int)) := by omega
      obtain rfl : i = gs.length := by omega
      rw [List.take_length, HGF.out]
      have hrec := (HRC.out.kept HB23.out).kept hb
      have hbb := below5 HB23.out hb
      have HCN := Lib.hid (canon_any (.slice oo l0.length co) (l.map (El.up hbb)) (by rw [up_fst]; exact hrec) (by rw [List.length_map]; omega))
      have HPL := Lib.hid (up_pl hbb l)
      have HBB := Lib.hid hbb
      clear hrec hb
      gi_wp2_with fail
      refine (callsIn_wide.2 HCN.out).mono ?_
      rintro e4 w4 ⟨v4, l4, rfl, r4, p4, n4, b4, _⟩
      obtain ⟨o4, c4, rfl⟩ : ∃ o cap, v4 = .slice o l4.length cap := by obtain ⟨_, o, cap, h, _⟩ := r4; exact ⟨o, cap, by rw [h, List.length_map]⟩
      have hl4 : l4.length = c.length := by
        have := congrArg List.length p4
        rw [HPL.out, ← HC.out, plE_len, plE_len] at this; exact this
      rw [hl4]
      have HBE := Lib.hid (below5 HBB.out b4)
      have hcz : (c.length : Int) ≤ 60 := by have := HCL.out; omega
      clear r4 p4 n4 b4 hl4
      gi_wp2_with fail
      go_ret
      exact ⟨by simp, below5 HB2.out HBE.out⟩
end Go.Proofs.Ytneghhbclefmoaa
