/- CheckStands: the walk. -/
import Derived.Test.YtneghhbclefmoaaGreatKCkK
import Derived.Test.YtneghhbclefmoaaGreatKReP
import Derived.Test.YtneghhbclefmoaaGreatKReg
namespace Go.Proofs.YtneghhbclefmoaaGreat
open Go.RowKit Go.Shelf Go.Sort
set_option maxRecDepth 100000
theorem Ck.words_ne : ∀ k (h : k < 10), 0 < k -> Ck.words[k]'h ≠ [] := by
 intro k h h0
 have h : k = 0 \/ k = 1 \/ k = 2 \/ k = 3 \/ k = 4 \/ k = 5 \/ k = 6 \/ k = 7 \/ k = 8 \/ k = 9 := by omega
 rcases h with rfl | rfl | rfl | rfl | rfl | rfl | rfl | rfl | rfl | rfl <;> first | omega | (simp [Ck.words])
set_option maxHeartbeats 8000000 in
theorem walkCheckStands (v0 : Value) (l0 : List (List UInt8)) (v1 : Value) (l1 : List RP) (w : World) (h0 : Rd v0 l0 w) (h1 : RecsRd v1 l1 w /\ ∀ x ∈ l1, RN x.2) :
  Calls Tryz.prog 8 #[v0, v1] w (TrZ w) := by
 obtain ⟨h1, hrn⟩ := h1
 obtain ⟨oo, co, rfl, _, _⟩ := h0.form
 obtain ⟨ov, cv, rfl⟩ : ∃ o cap, v1 = .slice o l1.length cap := by obtain ⟨_, o, cap, h, _⟩ := h1; exact ⟨o, cap, h⟩
 have HO := Lib.hid h0
 have HV := Lib.hid h1
 have HRN := Lib.hid hrn
 clear h0 h1 hrn
 refine (callsIn_wide (n := 0)).1 ?_
 refine callsIn_of_wp Tryz.func8 rfl trivial ?_ rfl
 simp only [Tryz.ntmps8, List.size_toArray, List.length_cons, List.length_nil, Nat.reduceAdd, Nat.reduceSub, Array.replicate_succ, Array.replicate_zero, List.push_toArray, List.append_toArray, List.nil_append, List.cons_append]
 gi_wp2_with fail
 refine (callsIn_wide.2 (known13_any _)).mono ?_
 rintro e w1 ⟨rfl, b1⟩
 have HG := Lib.hid (good12_any _ _ l0 l1 w1 (HO.out.below b1) (HV.out.kept b1))
 have HB1 := Lib.hid b1
 clear b1
 gi_wp2_with fail
 refine (callsIn_wide.2 HG.out).mono ?_
 rintro e w2 ⟨b, rfl, hq, b2⟩
 have HB2 := Lib.hid (below5 HB1.out b2)
 have HQ := Lib.hid hq
 clear HG b2 hq HB1
 cases b with
 | false =>
  gi_wp2_with fail
  go_ret
  exact ⟨rfl, HB2.out⟩
 | true =>
 obtain ⟨hgo, hrf⟩ := HQ.out rfl
 obtain ⟨nbo, lo140, _, _⟩ := Nm.good2_parts hgo
 have HRF := Lib.hid hrf
 have NBO := Lib.hid nbo
 have hrk := HV.out.kept HB2.out
 obtain ⟨l, hL, hL60, hLl⟩ := els_of hrk HRF.out HRN.out
 have hrec : RecsRd (.slice ov l1.length cv) (l.map (·.1)) w2 := by rw [hL]; exact hrk
 have HNW := Lib.hid (zNew_any oo l0.length co _ l hrec (by omega))
 have HRC := Lib.hid hrec
 clear hgo hrf nbo HQ hrk hrec hL HRF
 gi_wp2_with fail
 refine (callsIn_wide.2 HNW.out).mono ?_
 rintro e w4 ⟨v6, l6, rfl, r6, p6, n6, b4⟩
 obtain ⟨o6, c6, rfl⟩ : ∃ o cap, v6 = .slice o l6.length cap := by obtain ⟨_, o, cap, h, _⟩ := r6; exact ⟨o, cap, by rw [h, List.length_map]⟩
 have HCZ := Lib.hid (ckZone_any (w := w4) (.slice oo l0.length co) (.slice o6 l6.length c6) (l6.map (El.up b4)) l0 (by rw [up_fst]; exact r6) (by rw [List.length_map]; omega) (HO.out.below (below5 HB2.out b4)) NBO.out)
 rw [up_pl, p6] at HCZ
 have HB4 := Lib.hid b4
 clear HNW r6 p6 b4
 gi_wp2_with fail
 refine (callsIn_wide.2 HCZ.out).mono ?_
 rintro e w5 ⟨va, fa, rfl, ga, hofa, nfa, b5⟩
 obtain ⟨oa, ca, rfl, ha1, ha2⟩ := ga.form
 rw [List.length_map] at ga ha1 ⊢
 have HFA := Lib.hid ga
 have HST : Hid (∀ i j (h : i < j) (h' : j < fa.length), Ck.cmp (fa[i]'(by omega)).1.2 fa[j].1.2 < 0) := fun i j h h' => by
  have := List.pairwise_iff_getElem.1 hofa.strict i j (by unfold plF; rw [List.length_map]; omega) (by unfold plF; rw [List.length_map]; omega) h
  unfold plF at this
  simpa using this
 have HKR : Hid (∀ i (h : i < fa.length), 1 <= fa[i].1.2.kind /\ fa[i].1.2.kind <= 9) := fun i h => by
  refine Ck.raw_range (hofa.some fa[i].1.2 ?_)
  unfold plF
  exact List.mem_map.2 ⟨fa[i], List.getElem_mem h, rfl⟩
 have HB5 := Lib.hid b5
 have HB25 := Lib.hid (below5 HB2.out (below5 HB4.out b5))
 obtain ⟨n, hn⟩ : ∃ n, fa.length = n := ⟨_, rfl⟩
 have HN := Lib.hid hn
 rw [hn] at HFA nfa ha1 ⊢
 have nz : (n : Int) <= 1000 := by omega
 clear HCZ ga hofa b5 hn
 gi_wp2_with fail
 gi_loopw [6] (fun vi W => ∃ k : Nat, k <= n /\ vi = .int .i64 k /\ Below w5.heap.size w5 W) (fun vi _ => n - (intOf vi).toNat)
 case atStart => exact ⟨0, Nat.zero_le _, rfl, Below.refl _ _⟩
 case round =>
  obtain ⟨k, hk, rfl, hbw⟩ := hrel
  have HBW := Lib.hid hbw
  clear hbw
  by_cases hlt : k < n
  case neg =>
   have hlz : ¬ ((k : Int) < (n : Int)) := by omega
   gi_wp2_with fail
   go_ret
   exact ⟨rfl, below5 HB25.out HBW.out⟩
  case pos =>
  have hlz : (k : Int) < (n : Int) := by omega
  have hka : k < fa.length := by rw [HN.out]; exact hlt
  obtain ⟨y, hy⟩ : ∃ y, fa[k] = y := ⟨_, rfl⟩
  obtain ⟨p1, n1, q1, ey, hyo⟩ := y.cells
  have hyr := y.2.1
  rw [show y.1.1 = _ from ey] at hyr
  obtain ⟨kn, hkn, hk1, hk9⟩ : ∃ kn : Nat, y.1.2.kind = (kn : Int) /\ 0 < kn /\ kn < 10 := by
   have h := HKR.out k hka
   rw [hy] at h
   exact ⟨y.1.2.kind.toNat, by omega, by omega, by omega⟩
  obtain ⟨kt, hkt⟩ : ∃ z, y.1.2.type = z := ⟨_, rfl⟩
  rw [hkn, hkt] at ey hyr
  obtain ⟨ga, rfl, _⟩ := HFA.out.elF _ (Below.refl _ _) k hka _ _ _ (by rw [hy]; exact ey)
  obtain ⟨ek, hek⟩ : ∃ e, ga.add (k * 3) = e := ⟨_, rfl⟩
  obtain ⟨wd, hwd⟩ : ∃ z, Ck.words[kn]'hk9 = z := ⟨_, rfl⟩
  have hw0 : wd ≠ [] := by rw [<- hwd]; exact Ck.words_ne kn hk9 hk1
  have hw1 : (wd == []) = false := by simpa using hw0
  have hw2 : decide (wd = []) = false := decide_eq_false hw0
  have HWD : Hid (∀ W', Calls Tryz.prog 45 #[.int .i64 (kn : Int)] W' fun e w' => e = .returned (S wd) /\ Below W'.heap.size W' w') := fun W' => by
   have h := ckWord_any kn hk9 W'
   rw [hwd] at h; exact h
  by_cases h0 : 0 < k
  case neg =>
   obtain rfl : k = 0 := by omega
   have hcg : ((0 : Nat) : Int) = 0 := rfl
   have HCS : Hid (∀ W', Below w5.heap.size w5 W' -> Cs [(ek, Value.int .i64 (kn : Int)), (⟨ek.block, ek.off + 1, none⟩, .slice p1 n1 q1), (⟨ek.block, ek.off + 2, none⟩, .int .i64 kt)] W') := fun W' hW => by
    obtain ⟨a', ha', c0, c1, c2⟩ := HFA.out.elF _ hW 0 hka _ _ _ (by rw [hy]; exact ey)
    cases ha'
    rw [hek] at c0 c1 c2
    exact ⟨c0, c1, c2, trivial⟩
   clear hy ey hyo hyr hkn hk1 hk9 hkt hwd
   gi_wp2_with fail
   refine drawnH (List.range 24) (Cs [(ek, Value.int .i64 (kn : Int)), (⟨ek.block, ek.off + 1, none⟩, .slice p1 n1 q1), (⟨ek.block, ek.off + 2, none⟩, .int .i64 kt)]) 24 rfl (by kernel_rfl) ?_
   intro wa hwa
   have HBA : Hid (Below w5.heap.size w5 wa) := by subst hwa; exact HBW.out.drew
   have hS := HCS.out wa HBA.out
   clear hwa
   refine tH 0 ?qav0 hS (fun w1 ⟨y0, y1, y2, _⟩ => ?qay0) ?_
   case qay0 => go_simp; try rfl
   refine tH 1 ?qav1 hS (fun w1 ⟨y0, y1, y2, _⟩ => ?qay1) ?_
   case qay1 => go_simp; try rfl
   refine tH 2 ?qav2 hS (fun w1 ⟨y0, y1, y2, _⟩ => ?qay2) ?_
   case qay2 => go_simp; try rfl
   simp only [Act.put, List.setIfInBounds_toArray, List.set_cons_succ, List.set_cons_zero]
   refine tU 3 hS ?_
   refine tU 4 hS ?_
   refine tU 5 hS ?_
   refine tU 6 hS ?_
   refine tU 7 hS ?_
   refine tU 8 hS ?_
   refine tU 9 hS ?_
   refine tU 10 hS ?_
   refine tU 11 hS ?_
   refine tU 12 hS ?_
   refine tU 13 hS ?_
   simp only [Act.put, List.setIfInBounds_toArray, List.set_cons_succ, List.set_cons_zero]
   refine tH 14 ?qbv14 hS (fun w1 ⟨y0, y1, y2, _⟩ => ?qby14) ?_
   case qby14 => go_simp; try rfl
   refine tH 15 ?qbv15 hS (fun w1 ⟨y0, y1, y2, _⟩ => ?qby15) ?_
   case qby15 => go_simp; try rfl
   refine tH 16 ?qbv16 hS (fun w1 ⟨y0, y1, y2, _⟩ => ?qby16) ?_
   case qby16 => go_simp; try rfl
   refine tH 17 ?qbv17 hS (fun w1 ⟨y0, y1, y2, _⟩ => ?qby17) ?_
   case qby17 => go_simp; try rfl
   refine tH 18 ?qbv18 hS (fun w1 ⟨y0, y1, y2, _⟩ => ?qby18) ?_
   case qby18 => go_simp; try rfl
   refine tH 19 ?qbv19 hS (fun w1 ⟨y0, y1, y2, _⟩ => ?qby19) ?_
   case qby19 => go_simp; try rfl
   refine tH 20 ?qbv20 hS (fun w1 ⟨y0, y1, y2, _⟩ => ?qby20) ?_
   case qby20 => go_simp; try rfl
   simp only [Act.put, List.setIfInBounds_toArray, List.set_cons_succ, List.set_cons_zero]
   refine oneH 21 (by rfl) (by kernel_rfl) (fun K hK => ?_)
   gi_wp2_with (gi_at_call 45; refine (callsIn_wide.2 (HWD.out wa)).mono ?_; rintro e9 wc ⟨rfl, b9⟩)
   have HBC := Lib.hid (below5 HBA.out b9)
   replace hS := HCS.out wc HBC.out
   refine hK _ _ (fun _ => hS) ?_
   clear hK K b9
   refine tH 22 ?qcv22 hS (fun w1 ⟨y0, y1, y2, _⟩ => ?qcy22) ?_
   case qcy22 => go_simp; try rfl
   refine tH 23 ?qcv23 hS (fun w1 ⟨y0, y1, y2, _⟩ => ?qcy23) ?_
   case qcy23 => go_simp; try rfl
   simp only [Act.put, List.setIfInBounds_toArray, List.set_cons_succ, List.set_cons_zero]
   refine doneH (by kernel_rfl) ?_
   clear hS
   gi_wp2_with fail
   exact ⟨⟨0 + 1, hlt, by go_num, HBC.out⟩, by simp [intOf]; omega⟩
  case pos =>
  have h0z : (0 : Int) < (k : Int) := by omega
  have h0d : decide ((0 : Int) < (k : Int)) = true := by simp; omega
  have h0e : decide (0 < k) = true := by simp; omega
  have h0f : ¬ k = 0 := by omega
  have h0g : decide (k = 0) = false := by simp; omega
  have h0h : (k == 0) = false := by simp; omega
  obtain ⟨j, hjk1⟩ : ∃ j, k = j + 1 := ⟨k - 1, by omega⟩
  have HJK := Lib.hid hjk1
  have hj1 : (k : Int) - 1 = (j : Int) := by omega
  have hja : j < fa.length := by omega
  have hj2 : (j : Int) < (n : Int) := by omega
  have hj3 : (j : Int) <= 1000 := by omega
  have hwj : IntKind.i64.wrap (j : Int) = (j : Int) := IntWalk.i64_in _ (by omega)
  obtain ⟨x, hx⟩ : ∃ x, fa[j] = x := ⟨_, rfl⟩
  obtain ⟨p0, n0, q0, ex, hxo⟩ := x.cells
  have hxr := x.2.1
  rw [show x.1.1 = _ from ex] at hxr
  obtain ⟨jk, hjk⟩ : ∃ z, x.1.2.kind = z := ⟨_, rfl⟩
  obtain ⟨jt, hjt⟩ : ∃ z, x.1.2.type = z := ⟨_, rfl⟩
  rw [hjk, hjt] at ex hxr
  obtain ⟨ej, hej⟩ : ∃ e, ga.add (j * 3) = e := ⟨_, rfl⟩
  have HCS : Hid (∀ W', Below w5.heap.size w5 W' -> Cs [(ek, Value.int .i64 (kn : Int)), (⟨ek.block, ek.off + 1, none⟩, .slice p1 n1 q1), (⟨ek.block, ek.off + 2, none⟩, .int .i64 kt), (ej, .int .i64 jk), (⟨ej.block, ej.off + 1, none⟩, .slice p0 n0 q0), (⟨ej.block, ej.off + 2, none⟩, .int .i64 jt)] W') := fun W' hW => by
   obtain ⟨a', ha', c0, c1, c2⟩ := HFA.out.elF _ hW k hka _ _ _ (by rw [hy]; exact ey)
   obtain ⟨b', hb', d0, d1, d2⟩ := HFA.out.elF _ hW j hja _ _ _ (by rw [hx]; exact ex)
   cases ha'
   cases hb'
   rw [hek] at c0 c1 c2
   rw [hej] at d0 d1 d2
   exact ⟨c0, c1, c2, d0, d1, d2, trivial⟩
  have hzc := HST.out j k (by omega) hka
  rw [hx, hy] at hzc
  obtain ⟨zc, hzz⟩ : ∃ c, Ck.cmp x.1.2 y.1.2 = c := ⟨_, rfl⟩
  rw [hzz] at hzc
  have hzn : ¬ (0 : Int) <= zc := by omega
  have hzd : decide ((0 : Int) <= zc) = false := by simp; omega
  have HCM : Hid (∀ W', Below w5.heap.size w5 W' -> Calls Tryz.prog 44 #[.agg #[.int .i64 jk, .slice p0 n0 q0, .int .i64 jt], .agg #[.int .i64 (kn : Int), .slice p1 n1 q1, .int .i64 kt]] W' (Gives (.int .i64 zc) W')) := fun W' hW => by
   have h := ckCompare_any [.int .i64 jk, .slice p0 n0 q0, .int .i64 jt] [.int .i64 (kn : Int), .slice p1 n1 q1, .int .i64 kt] x.1.2 y.1.2 W' (hxr.below (below5 HB5.out hW)) (hyr.below (below5 HB5.out hW)) x.2.2 y.2.2
   rw [hzz] at h; exact h
  clear hx hy ex ey hxo hxr hyo hyr hkn hk1 hk9 hkt hwd hjk hjt hzz hjk1
  gi_wp2_with fail
  refine drawnH (List.range 24) (Cs [(ek, Value.int .i64 (kn : Int)), (⟨ek.block, ek.off + 1, none⟩, .slice p1 n1 q1), (⟨ek.block, ek.off + 2, none⟩, .int .i64 kt), (ej, .int .i64 jk), (⟨ej.block, ej.off + 1, none⟩, .slice p0 n0 q0), (⟨ej.block, ej.off + 2, none⟩, .int .i64 jt)]) 24 rfl (by kernel_rfl) ?_
  intro wa hwa
  have HBA : Hid (Below w5.heap.size w5 wa) := by subst hwa; exact HBW.out.drew
  have hS := HCS.out wa HBA.out
  clear hwa
  refine tH 0 ?pav0 hS (fun w1 ⟨y0, y1, y2, x0, x1, x2, _⟩ => ?pay0) ?_
  case pay0 => go_simp; try rfl
  refine tH 1 ?pav1 hS (fun w1 ⟨y0, y1, y2, x0, x1, x2, _⟩ => ?pay1) ?_
  case pay1 => go_simp; try rfl
  refine tH 2 ?pav2 hS (fun w1 ⟨y0, y1, y2, x0, x1, x2, _⟩ => ?pay2) ?_
  case pay2 => go_simp; try rfl
  refine tH 3 ?pav3 hS (fun w1 ⟨y0, y1, y2, x0, x1, x2, _⟩ => ?pay3) ?_
  case pay3 => go_simp; try rfl
  refine tH 4 ?pav4 hS (fun w1 ⟨y0, y1, y2, x0, x1, x2, _⟩ => ?pay4) ?_
  case pay4 => go_simp; try rfl
  refine tH 5 ?pav5 hS (fun w1 ⟨y0, y1, y2, x0, x1, x2, _⟩ => ?pay5) ?_
  case pay5 => go_simp; try rfl
  refine tH 6 ?pav6 hS (fun w1 ⟨y0, y1, y2, x0, x1, x2, _⟩ => ?pay6) ?_
  case pay6 => go_simp; try rfl
  refine tH 7 ?pav7 hS (fun w1 ⟨y0, y1, y2, x0, x1, x2, _⟩ => ?pay7) ?_
  case pay7 => go_simp; try rfl
  refine tH 8 ?pav8 hS (fun w1 ⟨y0, y1, y2, x0, x1, x2, _⟩ => ?pay8) ?_
  case pay8 => go_simp; try rfl
  refine tH 9 ?pav9 hS (fun w1 ⟨y0, y1, y2, x0, x1, x2, _⟩ => ?pay9) ?_
  case pay9 => go_simp; try rfl
  refine tH 10 ?pav10 hS (fun w1 ⟨y0, y1, y2, x0, x1, x2, _⟩ => ?pay10) ?_
  case pay10 => go_simp; try rfl
  refine tH 11 ?pav11 hS (fun w1 ⟨y0, y1, y2, x0, x1, x2, _⟩ => ?pay11) ?_
  case pay11 => go_simp; try rfl
  simp only [Act.put, List.setIfInBounds_toArray, List.set_cons_succ, List.set_cons_zero]
  refine oneH 12 (by rfl) (by kernel_rfl) (fun K hK => ?_)
  gi_wp2_with (gi_at_call 44; refine (callsIn_wide.2 (HCM.out wa HBA.out)).mono ?_; rintro e9 wb ⟨rfl, b9⟩)
  have HBB := Lib.hid (below5 HBA.out b9)
  replace hS := HCS.out wb HBB.out
  refine hK _ _ (fun _ => hS) ?_
  clear hK K b9
  refine tH 13 ?pbv13 hS (fun w1 ⟨y0, y1, y2, x0, x1, x2, _⟩ => ?pby13) ?_
  case pby13 => go_simp; try rfl
  refine tH 14 ?pbv14 hS (fun w1 ⟨y0, y1, y2, x0, x1, x2, _⟩ => ?pby14) ?_
  case pby14 => go_simp; try rfl
  refine tH 15 ?pbv15 hS (fun w1 ⟨y0, y1, y2, x0, x1, x2, _⟩ => ?pby15) ?_
  case pby15 => go_simp; try rfl
  refine tH 16 ?pbv16 hS (fun w1 ⟨y0, y1, y2, x0, x1, x2, _⟩ => ?pby16) ?_
  case pby16 => go_simp; try rfl
  refine tH 17 ?pbv17 hS (fun w1 ⟨y0, y1, y2, x0, x1, x2, _⟩ => ?pby17) ?_
  case pby17 => go_simp; try rfl
  refine tH 18 ?pbv18 hS (fun w1 ⟨y0, y1, y2, x0, x1, x2, _⟩ => ?pby18) ?_
  case pby18 => go_simp; try rfl
  refine tH 19 ?pbv19 hS (fun w1 ⟨y0, y1, y2, x0, x1, x2, _⟩ => ?pby19) ?_
  case pby19 => go_simp; try rfl
  refine tH 20 ?pbv20 hS (fun w1 ⟨y0, y1, y2, x0, x1, x2, _⟩ => ?pby20) ?_
  case pby20 => go_simp; try rfl
  simp only [Act.put, List.setIfInBounds_toArray, List.set_cons_succ, List.set_cons_zero]
  refine oneH 21 (by rfl) (by kernel_rfl) (fun K hK => ?_)
  gi_wp2_with (gi_at_call 45; refine (callsIn_wide.2 (HWD.out wb)).mono ?_; rintro e9 wc ⟨rfl, b9⟩)
  have HBC := Lib.hid (below5 HBB.out b9)
  replace hS := HCS.out wc HBC.out
  refine hK _ _ (fun _ => hS) ?_
  clear hK K b9
  refine tH 22 ?pcv22 hS (fun w1 ⟨y0, y1, y2, x0, x1, x2, _⟩ => ?pcy22) ?_
  case pcy22 => go_simp; try rfl
  refine tH 23 ?pcv23 hS (fun w1 ⟨y0, y1, y2, x0, x1, x2, _⟩ => ?pcy23) ?_
  case pcy23 => go_simp; try rfl
  simp only [Act.put, List.setIfInBounds_toArray, List.set_cons_succ, List.set_cons_zero]
  refine doneH (by kernel_rfl) ?_
  clear hS
  gi_wp2_with fail
  exact ⟨⟨k + 1, hlt, by go_num, HBC.out⟩, by simp [intOf]; omega⟩
end Go.Proofs.YtneghhbclefmoaaGreat
