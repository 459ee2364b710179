/- What the reference asks of a record; what may be, and is short. -/
import Derived.Test.YtneghhbclefmoaaGreatKGdD
section
namespace Go.Proofs.YtneghhbclefmoaaGreat
open Go.RowKit Go.Shelf Go.Sort
set_option maxRecDepth 100000
set_option maxHeartbeats 1000000 in
theorem checkRec_any (vs : List Value) (r : Rc.PRec) (w0 : World) (h : RecRd vs r w0) (ho : NB r.owner) (hf : DF r) :
  Calls Tryz.prog 96 #[.agg vs.toArray] w0 (Ints w0) := by
 obtain ⟨p0, n0, q0, p1, n1, q1, p2, n2, q2, p3, n3, q3, p4, n4, q4, rfl, hro, hrd⟩ := h.cells
 obtain ⟨tt, htt⟩ : ∃ tt, r.ttl = tt := ⟨_, rfl⟩
 rw [htt]
 obtain ⟨W1, hW1⟩ : ∃ W1, w0.alloc (.cells #[.slice p0 n0 q0, .int .u32 (tt : Int), .int .i64 r.type, .slice p1 n1 q1, .slice p2 n2 q2, .slice p3 n3 q3, .slice p4 n4 q4] 101) = W1 := ⟨_, rfl⟩
 have hb1 : Below w0.heap.size w0 W1 := by subst hW1; exact (Below.refl _ _).alloc (Nat.le_refl _) _
 have k0 : Blk w0.heap.size #[.slice p0 n0 q0, .int .u32 (tt : Int), .int .i64 r.type, .slice p1 n1 q1, .slice p2 n2 q2, .slice p3 n3 q3, .slice p4 n4 q4] 101 W1 := by subst hW1; exact Blk.new w0 _ _
 have d0 : W1.cell? ⟨w0.heap.size, 0, none⟩ = some _ := k0.cell 0
 have K0 := Lib.hid k0
 have HB := Lib.hid hb1
 have HN := Lib.hid (refCheckName_any _ _ _ (hro.below hb1) ho)
 have HD := Lib.hid (fun w' (hw : Below w0.heap.size w0 w') => checkData_any _ r w' (hrd.below hw) hf)
 obtain ⟨z, hz⟩ : ∃ z, Nm.check r.owner = z := ⟨_, rfl⟩
 rw [hz] at HN
 clear hro hrd h k0 hb1 hz hf ho
 by_cases hz0 : z = 0
 ·subst hz0
  by_cases ht : 2147483647 < tt
  ·have ht1 : (2147483647 : Int) < (tt : Int) := by omega
   have ht2 : decide ((2147483647 : Int) < (tt : Int)) = true := by simp; omega
   have ht3 : decide (2147483647 < tt) = true := by simp; omega
   go_enter Tryz.func96, Tryz.ntmps96
   go_wp2_with fail
   refine HN.out.mono ?_
   rintro e w2 ⟨rfl, b2⟩
   have e1 : w2.cell? ⟨w0.heap.size, 1, none⟩ = some _ := (K0.out.below b2).cell 1
   have HB2 := Lib.hid (below5 HB.out b2)
   clear b2
   go_wp2_with fail
   go_ret
   exact ⟨_, rfl, HB2.out⟩
  ·have ht1 : ¬ (2147483647 : Int) < (tt : Int) := by omega
   have ht2 : decide ((2147483647 : Int) < (tt : Int)) = false := by simp; omega
   have ht3 : decide (2147483647 < tt) = false := by simp; omega
   go_enter Tryz.func96, Tryz.ntmps96
   go_wp2_with fail
   refine HN.out.mono ?_
   rintro e w2 ⟨rfl, b2⟩
   have e1 : w2.cell? ⟨w0.heap.size, 1, none⟩ = some _ := (K0.out.below b2).cell 1
   have e2 : w2.cell? ⟨w0.heap.size, 2, none⟩ = some _ := (K0.out.below b2).cell 2
   have e3 : w2.cell? ⟨w0.heap.size, 3, none⟩ = some _ := (K0.out.below b2).cell 3
   have e4 : w2.cell? ⟨w0.heap.size, 4, none⟩ = some _ := (K0.out.below b2).cell 4
   have e5 : w2.cell? ⟨w0.heap.size, 5, none⟩ = some _ := (K0.out.below b2).cell 5
   have e6 : w2.cell? ⟨w0.heap.size, 6, none⟩ = some _ := (K0.out.below b2).cell 6
   have HB2 := Lib.hid (below5 HB.out b2)
   have HD2 := Lib.hid (HD.out _ (below5 HB.out b2))
   clear b2
   go_wp2_with fail
   refine HD2.out.mono ?_
   rintro e w3 ⟨z, rfl, b3⟩
   go_wp2_with fail
   go_ret
   exact ⟨_, rfl, below5 HB2.out b3⟩
 ·have hz1 : (z != 0) = true := by simpa using hz0
  go_enter Tryz.func96, Tryz.ntmps96
  go_wp2_with fail
  refine HN.out.mono ?_
  rintro e w2 ⟨rfl, b2⟩
  have HB2 := Lib.hid (below5 HB.out b2)
  clear b2
  go_wp2_with fail
  go_ret
  exact ⟨_, rfl, HB2.out⟩
end Go.Proofs.YtneghhbclefmoaaGreat
end
section
namespace Go.Proofs.YtneghhbclefmoaaGreat
open Go.RowKit Go.Shelf Go.Sort
set_option maxRecDepth 100000
def Nm.good2 (n : List (List UInt8)) : Bool := Nm.few n && (Nm.check n == 0)
set_option maxHeartbeats 2000000 in
theorem good2_any (v : Value) (n : List (List UInt8)) (w : World) (hv : Rd v n w) :
  Calls Tryz.prog 11 #[v] w (Gives (.bool (Nm.good2 n)) w) := by
 rcases hf : Nm.few n with _ | _
 ·have HF := Lib.hid hf
  have HG := Lib.hid (show Nm.good2 n = false by unfold Nm.good2; rw [hf]; rfl)
  clear hf
  go_enter Tryz.func11, Tryz.ntmps11
  go_wp2_with fail
  refine (few_any _ n _ hv).mono ?_
  rintro e w1 ⟨rfl, b1⟩
  rw [HF.out]
  replace hv := hv.below b1
  go_wp2_with fail
  go_ret
  exact ⟨by rw [HG.out]; rfl, b1⟩
 ·have HN := Lib.hid (NB.few hf)
  have HF := Lib.hid hf
  obtain ⟨z, hz⟩ : ∃ z, Nm.check n = z := ⟨_, rfl⟩
  have HZ := Lib.hid hz
  have HG := Lib.hid (show Nm.good2 n = (z == 0) by unfold Nm.good2; rw [hf, hz]; rfl)
  clear hf hz
  by_cases h0 : z = 0
  ·subst h0
   go_enter Tryz.func11, Tryz.ntmps11
   go_wp2_with fail
   refine (few_any _ n _ hv).mono ?_
   rintro e w1 ⟨rfl, b1⟩
   rw [HF.out]
   replace hv := hv.below b1
   go_wp2_with fail
   refine (refCheckName_any _ n _ hv HN.out).mono ?_
   rintro e w2 ⟨rfl, b2⟩
   rw [HZ.out]
   replace hv := hv.below b2
   replace b2 := below5 b1 b2
   go_wp2_with fail
   go_ret
   exact ⟨by rw [HG.out]; rfl, b2⟩
  ·have h0' : (z == 0) = false := by simpa using h0
   go_enter Tryz.func11, Tryz.ntmps11
   go_wp2_with fail
   refine (few_any _ n _ hv).mono ?_
   rintro e w1 ⟨rfl, b1⟩
   rw [HF.out]
   replace hv := hv.below b1
   go_wp2_with fail
   refine (refCheckName_any _ n _ hv HN.out).mono ?_
   rintro e w2 ⟨rfl, b2⟩
   rw [HZ.out]
   replace hv := hv.below b2
   replace b2 := below5 b1 b2
   go_wp2_with fail
   go_ret
   exact ⟨by rw [HG.out]; simp [h0], b2⟩
theorem Nm.good2_parts {n : List (List UInt8)} (h : Nm.good2 n = true) : NB n /\ n.length <= 140 /\ Nm.few n = true /\ Nm.check n = 0 := by
 unfold Nm.good2 at h
 rw [Bool.and_eq_true, beq_iff_eq] at h
 exact ⟨NB.few h.1, Nm.few_len h.1, h.1, h.2⟩
set_option maxHeartbeats 1000000 in
theorem good5_any (v : Value) (l : List RP) (w0 : World) (hv : RecsRd v l w0) :
  Calls Tryz.prog 43 #[v] w0 (Says (RF l) w0) := by
 obtain ⟨h0, o, cap, rfl, hc1, hc2, _⟩ := id hv
 have HV := Lib.hid hv.el'
 have H0 := Lib.hid h0
 have HF := Lib.hid (few5_any _ l w0 hv)
 unfold maxLen at hc2
 clear hv h0
 go_enter Tryz.func43, Tryz.ntmps43
 go_wp2_with fail
 refine HF.out.mono ?_
 rintro e w1 ⟨b, rfl, hq, b1⟩
 cases b with
 | false =>
  have HB := Lib.hid b1
  clear b1 hq
  go_wp2_with fail
  go_ret
  exact Says.no HB.out
 | true =>
  have hrf : RF l := hq rfl
  have HRF := Lib.hid hrf
  have HB := Lib.hid b1
  have g60 : (l.length : Int) <= 60 := by have := hrf.len; omega
  clear hq b1 hrf
  go_wp2
  go_loopw [3] (fun i wr => ∃ k : Nat, k <= l.length /\ i = .int .i64 k /\ Below w0.heap.size w0 wr) (fun i _ => l.length - (intOf i).toNat)
  case atStart => exact ⟨0, Nat.zero_le _, rfl, HB.out⟩
  case round =>
   obtain ⟨k, hk, rfl, hb⟩ := hrel
   by_cases hlt : k < l.length
   ·have hlz : (k : Int) < (l.length : Int) := by omega
    obtain ⟨x, hx⟩ : ∃ x, l[k] = x := ⟨_, rfl⟩
    have hm : x ∈ l := by rw [<- hx]; exact List.getElem_mem _
    have hxr := H0.out x hm
    obtain ⟨p0, n0, q0, p1, n1, q1, p2, n2, q2, p3, n3, q3, p4, n4, q4, ex, hro, hrd⟩ := hxr.cells
    obtain ⟨a, rfl, e0, e1, e2, e3, e4, e5, e6⟩ := HV.out _ hb k hlt _ _ _ _ _ _ _ (by rw [hx]; exact ex)
    have hof := of5_any _ x.2 wr (hxr.below hb) (by have := (HRF.out.dat x hm).names; omega)
    rw [ex] at hof
    have HOF := Lib.hid hof
    have HNO := Lib.hid (NB.few (HRF.out.owner x hm))
    have HDX := Lib.hid (HRF.out.dat x hm)
    have HBB := Lib.hid hb
    clear hx ex hro hrd hxr hm hof hb
    go_wp2_with fail
    refine HOF.out.mono ?_
    rintro e w2 ⟨vs, rfl, hr2, b2⟩
    have HB2 := Lib.hid (below5 HBB.out b2)
    have HC2 := Lib.hid (checkRec_any vs x.2 w2 hr2 HNO.out HDX.out)
    clear hr2 b2 e0 e1 e2 e3 e4 e5 e6
    go_wp2_with fail
    refine HC2.out.mono ?_
    rintro e w3 ⟨z, rfl, b3⟩
    have hb3 := below5 HB2.out b3
    clear b3
    by_cases hz : z = 0
    ·have hz1 : (z != 0) = false := by simp [hz]
     go_wp2_with fail
     exact ⟨⟨k + 1, hlt, by go_num, hb3⟩, by simp [intOf]; omega⟩
    ·have hz1 : (z != 0) = true := by simpa using hz
     go_wp2_with fail
     go_ret
     exact Says.no hb3
   ·have hlz : ¬ ((k : Int) < (l.length : Int)) := by omega
    go_wp2
    go_ret
    exact ⟨true, rfl, fun _ => HRF.out, hb⟩
set_option maxHeartbeats 1000000 in
theorem good12_any (u v : Value) (n : List (List UInt8)) (l : List RP) (w0 : World) (hu : Rd u n w0) (hv : RecsRd v l w0) :
  Calls Tryz.prog 10 #[u, v] w0 (Says (Nm.good2 n = true /\ RF l) w0) := by
 have H2 := Lib.hid (good2_any u n w0 hu)
 have H5 := Lib.hid (fun w' (hw : Below w0.heap.size w0 w') => good5_any v l w' (hv.kept hw))
 obtain ⟨bz, hbz⟩ : ∃ bz, Nm.good2 n = bz := ⟨_, rfl⟩
 have HBZ := Lib.hid hbz
 rw [hbz] at H2
 clear hu hv hbz
 cases bz with
 | false =>
  go_enter Tryz.func10, Tryz.ntmps10
  go_wp2_with fail
  refine H2.out.mono ?_
  rintro e w1 ⟨rfl, b1⟩
  have HB := Lib.hid b1
  clear b1
  go_wp2_with fail
  go_ret
  exact Says.no HB.out
 | true =>
  go_enter Tryz.func10, Tryz.ntmps10
  go_wp2_with fail
  refine H2.out.mono ?_
  rintro e w1 ⟨rfl, b1⟩
  have HB := Lib.hid b1
  have H51 := Lib.hid (H5.out _ b1)
  clear b1
  go_wp2_with fail
  refine H51.out.mono ?_
  rintro e w2 ⟨b, rfl, hq, b2⟩
  have HQ := Lib.hid hq
  have HB2 := Lib.hid (below5 HB.out b2)
  clear hq b2
  go_wp2_with fail
  go_ret
  exact ⟨b, rfl, fun h => ⟨HBZ.out, HQ.out h⟩, HB2.out⟩
end Go.Proofs.YtneghhbclefmoaaGreat
end
