/- Sets of records: two addresses of one name, and what they are. -/
import Derived.Test.YtneghhbclefmoaaLSeW
import Derived.Test.YtneghhbclefmoaaLZnI
section
namespace Go.Proofs.Ytneghhbclefmoaa
open Go.RowKit Go.Shelf Go.Sort
set_option maxRecDepth 100000

namespace Rs
open Rc
def grpF : Nat → List PRec → List (List PRec)
  | 0, _ => []
  | _, [] => []
  | f + 1, x :: l => (x :: l).take (run x (x :: l)) :: grpF f ((x :: l).drop (run x (x :: l)))
end Rs
theorem plE_grpE {w : World} : ∀ (f : Nat) (l : List (El w)), (grpE f l).map plE = Rs.grpF f (plE l)
  | 0, _ => rfl
  | f + 1, [] => rfl
  | f + 1, x :: l => by
    show plE _ :: (grpE f _).map plE = _ :: Rs.grpF f _
    rw [plE_grpE f]
    simp [plE, List.map_take, List.map_drop]
theorem plE_len {w : World} (l : List (El w)) : (plE l).length = l.length := by simp [plE]
theorem plE_grp {w : World} (l : List (El w)) : (grp l).map plE = Rs.grpF (plE l).length (plE l) := by rw [plE_len]; exact plE_grpE _ _
abbrev Rs.ka : Rc.PRec := ⟨[[97]], 9, 1, [], [], [], [2, 2, 2, 2]⟩
abbrev Rs.kb : Rc.PRec := ⟨[[97]], 5, 1, [], [], [], [1, 1, 1, 1]⟩
abbrev Rs.kc : Rc.PRec := ⟨[[97]], 7, 2, [[[120]]], [], [], []⟩
theorem Rs.k_canon : Rc.canon [Rs.ka, Rs.kb, Rs.kc] = [Rs.kb, Rs.ka, Rs.kc] := by kernel_rfl
theorem Rs.k_grp : Rs.grpF 3 [Rs.kb, Rs.ka, Rs.kc] = [[Rs.kb, Rs.ka], [Rs.kc]] := by kernel_rfl
theorem Rs.k_types : Rs.types [Rs.ka, Rs.kb, Rs.kc] [[97]] = [1, 2] := by
  unfold Rs.types
  rw [show ((([Rs.ka, Rs.kb, Rs.kc] : List Rc.PRec).filter fun r => Nm.same r.owner [[97]]).map (·.type)) = [1, 1, 2] by kernel_rfl, List.mergeSort_of_pairwise (by decide)]
  decide +kernel
theorem Rs.k_mine : Rs.mine [Rs.ka, Rs.kb, Rs.kc] [[65]] 1 = [Rs.kb, Rs.ka] := by kernel_rfl
theorem Rs.k_mine5 : Rs.mine [Rs.ka, Rs.kb, Rs.kc] [[97]] 5 = [] := by kernel_rfl
theorem Rs.k_same : Rs.sameDats [Rs.kb, Rs.ka] [Rs.kb, Rs.ka] = true := by decide +kernel
theorem Rs.k_apart : Rs.sameDats [Rs.kb, Rs.ka] [Rs.kc] = false := by decide +kernel
theorem plE_one {w : World} {k : List (El w)} {a : Rc.PRec} (h : plE k = [a]) : ∃ x, k = [x] ∧ x.1.2 = a := by
  match k, h with
  | [x], h => exact ⟨x, rfl, by simpa [plE] using h⟩
  | [], h => simp [plE] at h
  | _ :: _ :: _, h => simp [plE] at h
theorem plE_two {w : World} {k : List (El w)} {a b : Rc.PRec} (h : plE k = [a, b]) : ∃ x y, k = [x, y] ∧ x.1.2 = a ∧ y.1.2 = b := by
  match k, h with
  | [x, y], h =>
    simp only [plE, List.map_cons, List.map_nil, List.cons.injEq, and_true] at h
    exact ⟨x, y, rfl, h⟩
  | [], h => simp [plE] at h
  | [_], h => simp [plE] at h
  | _ :: _ :: _ :: _, h => simp [plE] at h
end Go.Proofs.Ytneghhbclefmoaa
end
section
namespace Go.Proofs.Ytneghhbclefmoaa
open Go.RowKit Go.Shelf Go.Sort
set_option maxRecDepth 100000

/-- cells and what they hold -/
def Cs : List (Addr × Value) → World → Prop
  | [], _ => True
  | p :: l, W => W.cell? p.1 = some p.2 ∧ Cs l W
theorem Cs.below : ∀ {l : List (Addr × Value)} {W W' : World}, Cs l W → Below W.heap.size W W' → Cs l W'
  | [], _, _, _, _ => trivial
  | _ :: _, _, _, h, hb => ⟨(hb.cell (cell_lt h.1)).trans h.1, Cs.below h.2 hb⟩
theorem Cs.drew : ∀ {l : List (Addr × Value)} {W : World}, Cs l W → Cs l W.drew
  | [], _, _ => trivial
  | _ :: _, _, h => ⟨h.1, Cs.drew h.2⟩
set_option maxHeartbeats 8000000 in
theorem known6_any (w : World) : Calls Try.prog 24 #[] w (Gives (.bool true) w) := by
  obtain ⟨W, hW⟩ : ∃ W, (((((w.alloc (.cells #[S [97]] 9)).alloc (.cells #[.int .u8 2, .int .u8 2, .int .u8 2, .int .u8 2] 5)).alloc (.cells #[.int .u8 1, .int .u8 1, .int .u8 1, .int .u8 1] 5)).alloc (.cells #[S [120]] 9)).alloc (.cells #[.slice (some ⟨w.heap.size + 1 + 1 + 1, 0, none⟩) 1 1] 23)).alloc
      (.cells #[.slice (some ⟨w.heap.size, 0, none⟩) 1 1, .int .u32 9, .int .i64 1, .slice none 0 0, .slice none 0 0, .slice none 0 0, .slice (some ⟨w.heap.size + 1, 0, none⟩) 4 4,
        .slice (some ⟨w.heap.size, 0, none⟩) 1 1, .int .u32 5, .int .i64 1, .slice none 0 0, .slice none 0 0, .slice none 0 0, .slice (some ⟨w.heap.size + 1 + 1, 0, none⟩) 4 4,
        .slice (some ⟨w.heap.size, 0, none⟩) 1 1, .int .u32 7, .int .i64 2, .slice (some ⟨w.heap.size + 1 + 1 + 1 + 1, 0, none⟩) 1 1, .slice none 0 0, .slice none 0 0, .slice none 0 0] 84) = W := ⟨_, rfl⟩
  have bW : Below w.heap.size w W := by
    rw [← hW]
    exact ((((((Below.refl _ _).alloc (Nat.le_refl _) _).alloc (by simp) _).alloc (by simp; omega) _).alloc (by simp; omega) _).alloc (by simp; omega) _).alloc (by simp; omega) _
  have m0 : Blk w.heap.size #[S [97]] 9 W := by rw [← hW]; exact (((((Blk.new w _ _).alloc _).alloc _).alloc _).alloc _).alloc _
  have m1 : Blk (w.heap.size + 1) #[.int .u8 2, .int .u8 2, .int .u8 2, .int .u8 2] 5 W := by
    rw [← hW]
    have := Blk.new (w.alloc (.cells #[S [97]] 9)) #[.int .u8 2, .int .u8 2, .int .u8 2, .int .u8 2] 5
    rw [World.size_alloc] at this
    exact (((this.alloc _).alloc _).alloc _).alloc _
  have m2 : Blk (w.heap.size + 1 + 1) #[.int .u8 1, .int .u8 1, .int .u8 1, .int .u8 1] 5 W := by
    rw [← hW]
    have := Blk.new ((w.alloc (.cells #[S [97]] 9)).alloc (.cells #[.int .u8 2, .int .u8 2, .int .u8 2, .int .u8 2] 5)) #[.int .u8 1, .int .u8 1, .int .u8 1, .int .u8 1] 5
    rw [World.size_alloc, World.size_alloc] at this
    exact ((this.alloc _).alloc _).alloc _
  have m3 : Blk (w.heap.size + 1 + 1 + 1) #[S [120]] 9 W := by
    rw [← hW]
    have := Blk.new (((w.alloc (.cells #[S [97]] 9)).alloc (.cells #[.int .u8 2, .int .u8 2, .int .u8 2, .int .u8 2] 5)).alloc (.cells #[.int .u8 1, .int .u8 1, .int .u8 1, .int .u8 1] 5)) #[S [120]] 9
    rw [World.size_alloc, World.size_alloc, World.size_alloc] at this
    exact (this.alloc _).alloc _
  have m4 : Blk (w.heap.size + 1 + 1 + 1 + 1) #[.slice (some ⟨w.heap.size + 1 + 1 + 1, 0, none⟩) 1 1] 23 W := by
    rw [← hW]
    have := Blk.new ((((w.alloc (.cells #[S [97]] 9)).alloc (.cells #[.int .u8 2, .int .u8 2, .int .u8 2, .int .u8 2] 5)).alloc (.cells #[.int .u8 1, .int .u8 1, .int .u8 1, .int .u8 1] 5)).alloc (.cells #[S [120]] 9)) #[.slice (some ⟨w.heap.size + 1 + 1 + 1, 0, none⟩) 1 1] 23
    rw [World.size_alloc, World.size_alloc, World.size_alloc, World.size_alloc] at this
    exact this.alloc _
  have m5 : Blk (w.heap.size + 1 + 1 + 1 + 1 + 1) #[.slice (some ⟨w.heap.size, 0, none⟩) 1 1, .int .u32 9, .int .i64 1, .slice none 0 0, .slice none 0 0, .slice none 0 0, .slice (some ⟨w.heap.size + 1, 0, none⟩) 4 4,
        .slice (some ⟨w.heap.size, 0, none⟩) 1 1, .int .u32 5, .int .i64 1, .slice none 0 0, .slice none 0 0, .slice none 0 0, .slice (some ⟨w.heap.size + 1 + 1, 0, none⟩) 4 4,
        .slice (some ⟨w.heap.size, 0, none⟩) 1 1, .int .u32 7, .int .i64 2, .slice (some ⟨w.heap.size + 1 + 1 + 1 + 1, 0, none⟩) 1 1, .slice none 0 0, .slice none 0 0, .slice none 0 0] 84 W := by
    rw [← hW]
    have := Blk.new (((((w.alloc (.cells #[S [97]] 9)).alloc (.cells #[.int .u8 2, .int .u8 2, .int .u8 2, .int .u8 2] 5)).alloc (.cells #[.int .u8 1, .int .u8 1, .int .u8 1, .int .u8 1] 5)).alloc (.cells #[S [120]] 9)).alloc (.cells #[.slice (some ⟨w.heap.size + 1 + 1 + 1, 0, none⟩) 1 1] 23)) #[.slice (some ⟨w.heap.size, 0, none⟩) 1 1, .int .u32 9, .int .i64 1, .slice none 0 0, .slice none 0 0, .slice none 0 0, .slice (some ⟨w.heap.size + 1, 0, none⟩) 4 4,
        .slice (some ⟨w.heap.size, 0, none⟩) 1 1, .int .u32 5, .int .i64 1, .slice none 0 0, .slice none 0 0, .slice none 0 0, .slice (some ⟨w.heap.size + 1 + 1, 0, none⟩) 4 4,
        .slice (some ⟨w.heap.size, 0, none⟩) 1 1, .int .u32 7, .int .i64 2, .slice (some ⟨w.heap.size + 1 + 1 + 1 + 1, 0, none⟩) 1 1, .slice none 0 0, .slice none 0 0, .slice none 0 0] 84
    rw [World.size_alloc, World.size_alloc, World.size_alloc, World.size_alloc, World.size_alloc] at this
    exact this
  have hnil : Rd (.slice none 0 0) [] W := Rd.nil _
  have hsl : Sl (.slice none 0 0) [] W := Sl.nil _
  have hnm0 : NmsRd (.slice none 0 0) [] W := ⟨[], rfl, Sl.nil _, fun i h => by simp at h⟩
  have hraw0 : BtRd (.slice none 0 0) [] W := Sl.nil _
  have hr1 : BtRd (.slice (some ⟨w.heap.size + 1, 0, none⟩) 4 4) [2, 2, 2, 2] W := sl_blk (cs := [.int .u8 2, .int .u8 2, .int .u8 2, .int .u8 2]) m1 (by simp)
  have hr2 : BtRd (.slice (some ⟨w.heap.size + 1 + 1, 0, none⟩) 4 4) [1, 1, 1, 1] W := sl_blk (cs := [.int .u8 1, .int .u8 1, .int .u8 1, .int .u8 1]) m2 (by simp)
  have hns : NmsRd (.slice (some ⟨w.heap.size + 1 + 1 + 1 + 1, 0, none⟩) 1 1) [[[120]]] W := by
    refine ⟨[.slice (some ⟨w.heap.size + 1 + 1 + 1, 0, none⟩) 1 1], rfl, sl_blk (cs := [.slice (some ⟨w.heap.size + 1 + 1 + 1, 0, none⟩) 1 1]) m4 (by simp), fun i h h2 => ?_⟩
    obtain rfl : i = 0 := by have h3 : i < 1 := h2; omega
    exact rd_blk [[120]] m3 (by decide)
  have ho := rd_blk [[97]] m0 (by decide)
  have e0 : RecRd [.slice (some ⟨w.heap.size, 0, none⟩) 1 1, .int .u32 9, .int .i64 1, .slice none 0 0, .slice none 0 0, .slice none 0 0, .slice (some ⟨w.heap.size + 1, 0, none⟩) 4 4] Rs.ka W ∧ RB Rs.ka := ⟨⟨_, _, rfl, ho, _, _, _, _, rfl, hnm0, hsl, hnil, hr1⟩, ⟨nb_ok (by decide), ⟨by decide, by simp⟩, ⟨by decide, by simp⟩, by decide, by decide⟩⟩
  have e1 : RecRd [.slice (some ⟨w.heap.size, 0, none⟩) 1 1, .int .u32 5, .int .i64 1, .slice none 0 0, .slice none 0 0, .slice none 0 0, .slice (some ⟨w.heap.size + 1 + 1, 0, none⟩) 4 4] Rs.kb W ∧ RB Rs.kb := ⟨⟨_, _, rfl, ho, _, _, _, _, rfl, hnm0, hsl, hnil, hr2⟩, ⟨nb_ok (by decide), ⟨by decide, by simp⟩, ⟨by decide, by simp⟩, by decide, by decide⟩⟩
  have e2 : RecRd [.slice (some ⟨w.heap.size, 0, none⟩) 1 1, .int .u32 7, .int .i64 2, .slice (some ⟨w.heap.size + 1 + 1 + 1 + 1, 0, none⟩) 1 1, .slice none 0 0, .slice none 0 0, .slice none 0 0] Rs.kc W ∧ RB Rs.kc := ⟨⟨_, _, rfl, ho, _, _, _, _, rfl, hns, hsl, hnil, hraw0⟩, ⟨nb_ok (by decide), ⟨by decide, fun n hn => by rw [List.mem_singleton] at hn; subst hn; exact nb_ok (by decide)⟩, ⟨by decide, by simp⟩, by decide, by decide⟩⟩
  obtain ⟨l, hl⟩ : ∃ l : List (El W), [⟨(_, _), e0⟩, ⟨(_, _), e1⟩, ⟨(_, _), e2⟩] = l := ⟨_, rfl⟩
  have hl3 : l.length = 3 := by rw [← hl]; rfl
  have hpl : plE l = [Rs.ka, Rs.kb, Rs.kc] := by rw [← hl]; rfl
  have hrecs : RecsRd (.slice (some ⟨w.heap.size + 1 + 1 + 1 + 1 + 1, 0, none⟩) 3 3) (l.map (·.1)) W := by
    have := recs_blk l (by rw [← hl]; exact m5) (by rw [hl3]; decide)
    rw [hl3] at this; exact this
  have HS := Lib.hid (rsets_any (w0 := W) _ l (Below.refl _ _) hrecs (by omega))
  have HRC := Lib.hid hrecs
  have HO := Lib.hid ho
  have HPL := Lib.hid hpl
  have HBW := Lib.hid bW
  have HW := Lib.hid hW
  have nb1 : NB [[97]] := nb_ok (by decide)
  clear m0 m1 m2 m3 m4 m5 hnil hsl hnm0 hraw0 hr1 hr2 hns ho e0 e1 e2 hl hrecs hpl bW hW
  refine (callsIn_wide (n := 0)).1 ?_
  refine callsIn_of_wp Try.func24 rfl trivial ?_ rfl
  simp only [Try.ntmps24, List.size_toArray, List.length_nil, Nat.reduceSub, Array.replicate_succ, Array.replicate_zero, List.push_toArray, List.append_toArray, List.nil_append, List.cons_append]
  gi_wp2_with fail
  rw [HW.out]
  refine (callsIn_wide.2 HS.out).mono ?_
  rintro e w1 ⟨c, v1, hc, hcl, rfl, hsr, b1⟩
  rw [HPL.out, Rs.k_canon] at hc
  have hg := plE_grp c
  rw [hc] at hg
  rw [show Rs.grpF ([Rs.kb, Rs.ka, Rs.kc] : List Rc.PRec).length [Rs.kb, Rs.ka, Rs.kc] = [[Rs.kb, Rs.ka], [Rs.kc]] from Rs.k_grp] at hg
  obtain ⟨k0, k1, hk, hk0, hk1⟩ : ∃ k0 k1, grp c = [k0, k1] ∧ plE k0 = [Rs.kb, Rs.ka] ∧ plE k1 = [Rs.kc] := by
    match grp c, hg with
    | [k0, k1], h => exact ⟨k0, k1, rfl, by simpa using h⟩
    | [], h => simp at h
    | [_], h => simp at h
    | _ :: _ :: _ :: _, h => simp at h
  rw [hk] at hsr
  obtain ⟨css, hgr, hcs, hsc⟩ := hsr
  obtain ⟨cs0, cs1, rfl⟩ : ∃ cs0 cs1, css = [cs0, cs1] := by
    match css, hcs with
    | [a, b], _ => exact ⟨a, b, rfl⟩
  have hs0 := hsc 0 (by simp) (by simp)
  have hs1 := hsc 1 (by simp) (by simp)
  simp only [List.getElem_cons_zero, List.getElem_cons_succ] at hs0 hs1
  obtain ⟨x0, xs0, po, no, qo, od, cd, rfl, h02, h03, h04⟩ := hs0
  obtain ⟨x1, xs1, pp, np, qp, oe, ce, rfl, h12, h13, h14⟩ := hs1
  have hx0 : x0.1.2 = Rs.kb := by simpa [plE] using congrArg List.head? hk0
  have hx1 : x1.1.2 = Rs.kc := by simpa [plE] using congrArg List.head? hk1
  have hn0 : (x0 :: xs0).length = 2 := by have := congrArg List.length hk0; simpa [plE] using this
  have hn1 : (x1 :: xs1).length = 1 := by have := congrArg List.length hk1; simpa [plE] using this
  rw [hn0, hk0, hx0] at h02
  rw [hn0] at h04
  rw [hn1, hk1, hx1] at h12
  rw [hn1] at h14
  have e5 : (Rs.ttl Rs.kb [Rs.kb, Rs.ka] : Nat) = 5 := by decide +kernel
  rw [e5] at h02
  obtain ⟨os, cs, rfl, _, _⟩ := hgr.form
  obtain ⟨ga, rfl, _⟩ := hgr.el (by decide) 0 (by simp)
  have HG : Hid (∀ W', Below w1.heap.size w1 W' → (W'.cell? ga = some (.slice po no qo) ∧ W'.cell? ⟨ga.block, ga.off + 1, none⟩ = some (.int .i64 1) ∧ W'.cell? ⟨ga.block, ga.off + 2, none⟩ = some (.int .u32 5) ∧ W'.cell? ⟨ga.block, ga.off + 3, none⟩ = some (.slice od 2 cd)) ∧
      (W'.cell? ⟨ga.block, ga.off + 4, none⟩ = some (.slice pp np qp) ∧ W'.cell? ⟨ga.block, ga.off + 4 + 1, none⟩ = some (.int .i64 2) ∧ W'.cell? ⟨ga.block, ga.off + 4 + 2, none⟩ = some (.int .u32 ((Rs.ttl Rs.kc [Rs.kc] : Nat) : Int)) ∧ W'.cell? ⟨ga.block, ga.off + 4 + 3, none⟩ = some (.slice oe 1 ce))) := fun W' hW' => by
    obtain ⟨a, ha, q0, q1⟩ := (hgr.below hW').at (by decide) 0 (by simp)
    cases ha
    obtain ⟨a, ha, r0, r1⟩ := (hgr.below hW').at (by decide) 1 (by simp)
    cases ha
    simp only [List.getElem_cons_zero, List.getElem_cons_succ, h02, h12, Nat.zero_mul, Nat.one_mul, add_zero'] at q0 q1 r0 r1
    exact ⟨⟨q0, q1 1 (by decide) (by decide), q1 2 (by decide) (by decide), q1 3 (by decide) (by decide)⟩, r0, r1 1 (by decide) (by decide), r1 2 (by decide) (by decide), r1 3 (by decide) (by decide)⟩
  have HD0 := Lib.hid h04
  have HD1 := Lib.hid h14
  have HK0 := Lib.hid hk0
  have HK1 := Lib.hid hk1
  have HB1 := Lib.hid b1
  have HRD1 := Lib.hid h13
  have HR1 := Lib.hid (HRC.out.kept b1)
  clear hc hcl hg hgr hcs hsc h02 h12 h03 h04 h13 h14 hk hn0 hn1 e5 HS hk0 hk1 b1 HRC hx0 hx1
  obtain ⟨A1, hA1⟩ : ∃ A, w1.alloc (.cells #[S [65]] 9) = A := ⟨_, rfl⟩
  have u1 : Below w1.heap.size w1 A1 := by rw [← hA1]; exact (Below.refl _ _).alloc (Nat.le_refl _) _
  have r1 : Rd (.slice (some ⟨w1.heap.size, 0, none⟩) 1 1) [[65]] A1 := by rw [← hA1]; exact rd_new [[65]] w1 (by decide)
  have HO1 := Lib.hid (rsetOf_any (w0 := A1) (.slice (some ⟨w.heap.size + 1 + 1 + 1 + 1 + 1, 0, none⟩) 3 3) (.slice (some ⟨w1.heap.size, 0, none⟩) 1 1) l [[65]] 1 (below5 HB1.out u1) (HR1.out.kept u1) (by omega) r1 (nb_ok (by decide)))
  have HA1 := Lib.hid hA1
  have HU1 := Lib.hid u1
  clear r1 hA1 u1
  gi_wp2_with fail
  rw [HA1.out]
  refine (callsIn_wide.2 HO1.out).mono ?_
  rintro e w2 ⟨c2, v2, hc2, _, rfl, hv2, b2⟩
  rw [HPL.out, Rs.k_mine] at hc2
  obtain ⟨y0, y1, rfl, hy0, hy1⟩ := plE_two hc2
  obtain ⟨vo2, of2, cf2, ev2, hro2, hd2⟩ := hv2
  have hrun : Rs.run y0.1.2 (plE [y0, y1]) = 2 := by rw [hc2, hy0]; decide +kernel
  rw [hrun] at ev2 hd2
  have httl : Rs.ttl y0.1.2 (plE ([y0, y1].take 2)) = 5 := by rw [show [y0, y1].take 2 = [y0, y1] from rfl, hc2, hy0]; decide +kernel
  rw [httl, hy0] at ev2
  obtain ⟨oo2, co2, rfl, _, _⟩ := hro2.form
  subst ev2
  obtain ⟨no2, hno2⟩ : ∃ n, y0.1.2.owner.length = n := ⟨_, rfl⟩
  rw [hno2]
  obtain ⟨A2, hA2⟩ : ∃ A, w2.alloc (.cells #[.slice oo2 no2 co2, .int .i64 1, .int .u32 5, .slice of2 2 cf2] 54) = A := ⟨_, rfl⟩
  have k2 : Blk w2.heap.size #[.slice oo2 no2 co2, .int .i64 1, .int .u32 5, .slice of2 2 cf2] 54 A2 := by rw [← hA2]; exact Blk.new w2 _ _
  have t2 : Below w1.heap.size w1 A2 := by rw [← hA2]; exact (below5 HU1.out b2).alloc (below5 HU1.out b2).size _
  have hd2' : DatsRd (.slice of2 2 cf2) [y0, y1] A2 := by rw [← hA2]; exact DatsRd.below hd2 ((Below.refl _ _).alloc (Nat.le_refl _) _)
  have HO2 := Lib.hid (rsetOf_any (w0 := A2) (.slice (some ⟨w.heap.size + 1 + 1 + 1 + 1 + 1, 0, none⟩) 3 3) (.slice (some ⟨w.heap.size, 0, none⟩) 1 1) l [[97]] 5 (below5 HB1.out t2) (HR1.out.kept t2) (by omega) ((HO.out.below HB1.out).below t2) nb1)
  have HT2 := Lib.hid t2
  have HK2 := Lib.hid k2
  have HDY := Lib.hid hd2'
  have HC2 := Lib.hid hc2
  have HA2 := Lib.hid hA2
  clear hc2 hrun httl hro2 hd2 hd2' t2 k2 hA2 hno2 b2 hy0 hy1 HO1
  gi_wp2_with fail
  rw [HA2.out]
  refine (callsIn_wide.2 HO2.out).mono ?_
  rintro e w3 ⟨c3, v3, hc3, _, rfl, hv3, b3⟩
  rw [HPL.out, Rs.k_mine5] at hc3
  obtain rfl : c3 = [] := by simpa [plE] using hc3
  have ev3 : v3 = .agg #[.slice none 0 0, .int .i64 0, .int .u32 0, .slice none 0 0] := hv3
  subst ev3
  obtain ⟨A3, hA3⟩ : ∃ A, w3.alloc (.cells #[.slice none 0 0, .int .i64 0, .int .u32 0, .slice none 0 0] 54) = A := ⟨_, rfl⟩
  have b3' : Below A2.heap.size A2 A3 := by rw [← hA3]; exact b3.alloc b3.size _
  have HB3 := Lib.hid b3'
  have HT3 := Lib.hid (below5 HT2.out b3')
  have HTY := Lib.hid (types_any (w0 := A3) (.slice (some ⟨w.heap.size + 1 + 1 + 1 + 1 + 1, 0, none⟩) 3 3) (.slice (some ⟨w.heap.size, 0, none⟩) 1 1) l [[97]] (below5 HB1.out HT3.out) (HR1.out.kept HT3.out) (by omega) ((HO.out.below HB1.out).below HT3.out) nb1)
  rw [HPL.out, Rs.k_types] at HTY
  have HA3 := Lib.hid hA3
  clear hc3 hv3 b3 b3' hA3 HO2
  gi_wp2_with fail
  rw [HA3.out]
  refine (callsIn_wide.2 HTY.out).mono ?_
  rintro e w4 ⟨v4, rfl, r4, b4⟩
  have HT4 := Lib.hid (below5 HT3.out b4)
  have HB4 := Lib.hid (below5 HB3.out b4)
  obtain ⟨o4, c4, rfl, h41, h42⟩ := r4.form
  obtain ⟨a4, rfl, _⟩ := r4.cells _ (Below.refl _ _) 0 (by simp)
  have HR4 := Lib.hid r4
  obtain ⟨⟨q0, q1, q2, q3⟩, p0, p1, p2, p3⟩ := HG.out w4 HT4.out
  have hlt4 : ([(1 : Int), 2].map I64).length = 2 := rfl
  rw [hlt4]
  clear r4 b4 HTY
  have HTG := Lib.hid (targets_any (w0 := w4) pp np qp 2 (Rs.ttl Rs.kc [Rs.kc]) oe 1 ce (x1 :: xs1) (below5 HB1.out HT4.out) (HD1.out.below HT4.out) (by have := congrArg List.length HK1.out; simp [plE] at this; simp [this]))
  rw [HK1.out] at HTG
  gi_wp2_with fail
  refine (callsIn_wide.2 HTG.out).mono ?_
  rintro e w5 ⟨v5, rfl, ⟨us5, l5, s5, r5⟩, b5⟩
  have hus : ∃ u, us5 = [u] := by
    have : us5.length = 1 := by rw [l5]; rfl
    match us5, this with
    | [u], _ => exact ⟨u, rfl⟩
  obtain ⟨u5, rfl⟩ := hus
  have hr5 : Rd u5 [[120]] w5 := r5 0 (by simp) (by decide)
  obtain ⟨o5, c5, rfl, _, _⟩ := s5.form
  obtain ⟨a5, rfl, q5⟩ := s5.cells _ (Below.refl _ _) 0 (by simp)
  obtain ⟨o6, c6, rfl, _, _⟩ := hr5.form
  rw [add_zero'] at q5
  simp only [List.length_cons, List.length_nil, Nat.zero_add, List.getElem_cons_zero] at q5 ⊢
  have HT5 := Lib.hid (below5 HT4.out b5)
  have HB5 := Lib.hid (below5 HB4.out b5)
  have HR5 := Lib.hid hr5
  have x4 : w5.cell? ⟨a4.block, a4.off + 1, none⟩ = some (.int .i64 2) := by
    obtain ⟨a', ha', h⟩ := HR4.out.cells _ b5 1 (by simp)
    cases ha'; exact h
  have y3 : w5.cell? ⟨w2.heap.size, 3, none⟩ = some _ := (HK2.out.below HB5.out).cell 3
  clear q0 q1 q2 q3 p0 p1 p2 p3
  obtain ⟨⟨q0, q1, q2, q3⟩, p0, p1, p2, p3⟩ := HG.out w5 HT5.out
  clear b5 s5 r5 l5 hr5 HTG
  obtain ⟨Sx, hSx⟩ : ∃ Sx : List (Addr × Value), Sx = [(⟨ga.block, ga.off + 1, none⟩, I64 1), (⟨ga.block, ga.off + 3, none⟩, .slice od 2 cd), (⟨ga.block, ga.off + 2, none⟩, .int .u32 5), (⟨w2.heap.size, 3, none⟩, .slice of2 2 cf2), (⟨a4.block, a4.off + 1, none⟩, I64 2), (a5, .slice o6 1 c6), (ga, .slice po no qo), (⟨w2.heap.size, 0, none⟩, .slice oo2 no2 co2), (⟨w2.heap.size, 1, none⟩, I64 1), (⟨w2.heap.size, 2, none⟩, .int .u32 5), (⟨ga.block, ga.off + 4, none⟩, .slice pp np qp), (⟨ga.block, ga.off + 4 + 1, none⟩, I64 2), (⟨ga.block, ga.off + 4 + 2, none⟩, .int .u32 ((Rs.ttl Rs.kc [Rs.kc] : Nat) : Int)), (⟨ga.block, ga.off + 4 + 3, none⟩, .slice oe 1 ce)] := ⟨_, rfl⟩
  have y0 : w5.cell? ⟨w2.heap.size, 0, none⟩ = some _ := (HK2.out.below HB5.out).cell 0
  have y1 : w5.cell? ⟨w2.heap.size, 1, none⟩ = some _ := (HK2.out.below HB5.out).cell 1
  have y2 : w5.cell? ⟨w2.heap.size, 2, none⟩ = some _ := (HK2.out.below HB5.out).cell 2
  have hS5 : Cs [(⟨ga.block, ga.off + 1, none⟩, I64 1), (⟨ga.block, ga.off + 3, none⟩, .slice od 2 cd), (⟨ga.block, ga.off + 2, none⟩, .int .u32 5), (⟨w2.heap.size, 3, none⟩, .slice of2 2 cf2), (⟨a4.block, a4.off + 1, none⟩, I64 2), (a5, .slice o6 1 c6), (ga, .slice po no qo), (⟨w2.heap.size, 0, none⟩, .slice oo2 no2 co2), (⟨w2.heap.size, 1, none⟩, I64 1), (⟨w2.heap.size, 2, none⟩, .int .u32 5), (⟨ga.block, ga.off + 4, none⟩, .slice pp np qp), (⟨ga.block, ga.off + 4 + 1, none⟩, I64 2), (⟨ga.block, ga.off + 4 + 2, none⟩, .int .u32 ((Rs.ttl Rs.kc [Rs.kc] : Nat) : Int)), (⟨ga.block, ga.off + 4 + 3, none⟩, .slice oe 1 ce)] w5 := ⟨q1, q3, q2, y3, x4, q5, q0, y0, y1, y2, p0, p1, p2, p3, trivial⟩
  clear q0 q1 q2 q3 x4 q5 p0 p1 p2 p3 y0 y1 y2 y3 hSx Sx
  have HS5 := Lib.hid hS5
  clear hS5
  gi_wp2_with fail
  refine drawnH (List.range 68) (Cs [(⟨ga.block, ga.off + 1, none⟩, I64 1), (⟨ga.block, ga.off + 3, none⟩, .slice od 2 cd), (⟨ga.block, ga.off + 2, none⟩, .int .u32 5), (⟨w2.heap.size, 3, none⟩, .slice of2 2 cf2), (⟨a4.block, a4.off + 1, none⟩, I64 2), (a5, .slice o6 1 c6), (ga, .slice po no qo), (⟨w2.heap.size, 0, none⟩, .slice oo2 no2 co2), (⟨w2.heap.size, 1, none⟩, I64 1), (⟨w2.heap.size, 2, none⟩, .int .u32 5), (⟨ga.block, ga.off + 4, none⟩, .slice pp np qp), (⟨ga.block, ga.off + 4 + 1, none⟩, I64 2), (⟨ga.block, ga.off + 4 + 2, none⟩, .int .u32 ((Rs.ttl Rs.kc [Rs.kc] : Nat) : Int)), (⟨ga.block, ga.off + 4 + 3, none⟩, .slice oe 1 ce)]) 69 rfl (by kernel_rfl) ?_
  intro w' hw'
  have hS : Cs [(⟨ga.block, ga.off + 1, none⟩, I64 1), (⟨ga.block, ga.off + 3, none⟩, .slice od 2 cd), (⟨ga.block, ga.off + 2, none⟩, .int .u32 5), (⟨w2.heap.size, 3, none⟩, .slice of2 2 cf2), (⟨a4.block, a4.off + 1, none⟩, I64 2), (a5, .slice o6 1 c6), (ga, .slice po no qo), (⟨w2.heap.size, 0, none⟩, .slice oo2 no2 co2), (⟨w2.heap.size, 1, none⟩, I64 1), (⟨w2.heap.size, 2, none⟩, .int .u32 5), (⟨ga.block, ga.off + 4, none⟩, .slice pp np qp), (⟨ga.block, ga.off + 4 + 1, none⟩, I64 2), (⟨ga.block, ga.off + 4 + 2, none⟩, .int .u32 ((Rs.ttl Rs.kc [Rs.kc] : Nat) : Int)), (⟨ga.block, ga.off + 4 + 3, none⟩, .slice oe 1 ce)] w' := by subst hw'; exact HS5.out.drew
  have hb6 : Below w5.heap.size w5 w' := by subst hw'; exact (Below.refl _ _).drew
  clear hw'
  refine takeH 0 (v := ?qav0) (fun _ => trivial) (by rfl) (by kernel_rfl) hS (.inl ⟨by kernel_rfl, fun w1 ⟨c0, c1, c2, c3, c4, c5, c6, c7, c8, c9, d0, d1, d2, d3, _⟩ => ?qay0⟩) ?_
  case qay0 => (go_simp; try first | rfl | (rw [if_pos (by omega)]) | (rw [if_neg (by omega)]) | (rw [if_neg (by simp; omega)]) | (split <;> first | (exfalso; omega) | rfl))
  refine takeH 1 (v := ?qav1) (fun _ => trivial) (by rfl) (by kernel_rfl) hS (.inl ⟨by kernel_rfl, fun w1 ⟨c0, c1, c2, c3, c4, c5, c6, c7, c8, c9, d0, d1, d2, d3, _⟩ => ?qay1⟩) ?_
  case qay1 => (go_simp; try first | rfl | (rw [if_pos (by omega)]) | (rw [if_neg (by omega)]) | (rw [if_neg (by simp; omega)]) | (split <;> first | (exfalso; omega) | rfl))
  refine takeH 2 (v := ?qav2) (fun _ => trivial) (by rfl) (by kernel_rfl) hS (.inl ⟨by kernel_rfl, fun w1 ⟨c0, c1, c2, c3, c4, c5, c6, c7, c8, c9, d0, d1, d2, d3, _⟩ => ?qay2⟩) ?_
  case qay2 => (go_simp; try first | rfl | (rw [if_pos (by omega)]) | (rw [if_neg (by omega)]) | (rw [if_neg (by simp; omega)]) | (split <;> first | (exfalso; omega) | rfl))
  refine takeH 3 (v := ?qav3) (fun _ => trivial) (by rfl) (by kernel_rfl) hS (.inl ⟨by kernel_rfl, fun w1 ⟨c0, c1, c2, c3, c4, c5, c6, c7, c8, c9, d0, d1, d2, d3, _⟩ => ?qay3⟩) ?_
  case qay3 => (go_simp; try first | rfl | (rw [if_pos (by omega)]) | (rw [if_neg (by omega)]) | (rw [if_neg (by simp; omega)]) | (split <;> first | (exfalso; omega) | rfl))
  refine takeH 4 (v := ?qav4) (fun _ => trivial) (by rfl) (by kernel_rfl) hS (.inl ⟨by kernel_rfl, fun w1 ⟨c0, c1, c2, c3, c4, c5, c6, c7, c8, c9, d0, d1, d2, d3, _⟩ => ?qay4⟩) ?_
  case qay4 => (go_simp; try first | rfl | (rw [if_pos (by omega)]) | (rw [if_neg (by omega)]) | (rw [if_neg (by simp; omega)]) | (split <;> first | (exfalso; omega) | rfl))
  refine takeH 5 (v := ?qav5) (fun _ => trivial) (by rfl) (by kernel_rfl) hS (.inl ⟨by kernel_rfl, fun w1 ⟨c0, c1, c2, c3, c4, c5, c6, c7, c8, c9, d0, d1, d2, d3, _⟩ => ?qay5⟩) ?_
  case qay5 => (go_simp; try first | rfl | (rw [if_pos (by omega)]) | (rw [if_neg (by omega)]) | (rw [if_neg (by simp; omega)]) | (split <;> first | (exfalso; omega) | rfl))
  refine takeH 6 (v := ?qav6) (fun _ => trivial) (by rfl) (by kernel_rfl) hS (.inl ⟨by kernel_rfl, fun w1 ⟨c0, c1, c2, c3, c4, c5, c6, c7, c8, c9, d0, d1, d2, d3, _⟩ => ?qay6⟩) ?_
  case qay6 => (go_simp; try first | rfl | (rw [if_pos (by omega)]) | (rw [if_neg (by omega)]) | (rw [if_neg (by simp; omega)]) | (split <;> first | (exfalso; omega) | rfl))
  refine takeH 7 (v := ?qav7) (fun _ => trivial) (by rfl) (by kernel_rfl) hS (.inl ⟨by kernel_rfl, fun w1 ⟨c0, c1, c2, c3, c4, c5, c6, c7, c8, c9, d0, d1, d2, d3, _⟩ => ?qay7⟩) ?_
  case qay7 => (go_simp; try first | rfl | (rw [if_pos (by omega)]) | (rw [if_neg (by omega)]) | (rw [if_neg (by simp; omega)]) | (split <;> first | (exfalso; omega) | rfl))
  simp only [Act.put, List.setIfInBounds_toArray, List.set_cons_succ, List.set_cons_zero]
  refine takeH 8 (v := ?qav8) (fun _ => trivial) (by rfl) (by kernel_rfl) hS (.inl ⟨by kernel_rfl, fun w1 ⟨c0, c1, c2, c3, c4, c5, c6, c7, c8, c9, d0, d1, d2, d3, _⟩ => ?qay8⟩) ?_
  case qay8 => (go_simp; try first | rfl | (rw [if_pos (by omega)]) | (rw [if_neg (by omega)]) | (rw [if_neg (by simp; omega)]) | (split <;> first | (exfalso; omega) | rfl))
  refine takeH 9 (v := ?qav9) (fun _ => trivial) (by rfl) (by kernel_rfl) hS (.inl ⟨by kernel_rfl, fun w1 ⟨c0, c1, c2, c3, c4, c5, c6, c7, c8, c9, d0, d1, d2, d3, _⟩ => ?qay9⟩) ?_
  case qay9 => (go_simp; try first | rfl | (rw [if_pos (by omega)]) | (rw [if_neg (by omega)]) | (rw [if_neg (by simp; omega)]) | (split <;> first | (exfalso; omega) | rfl))
  refine takeH 10 (v := ?qav10) (fun _ => trivial) (by rfl) (by kernel_rfl) hS (.inl ⟨by kernel_rfl, fun w1 ⟨c0, c1, c2, c3, c4, c5, c6, c7, c8, c9, d0, d1, d2, d3, _⟩ => ?qay10⟩) ?_
  case qay10 => (go_simp; try first | rfl | (rw [if_pos (by omega)]) | (rw [if_neg (by omega)]) | (rw [if_neg (by simp; omega)]) | (split <;> first | (exfalso; omega) | rfl))
  refine takeH 11 (v := ?qav11) (fun _ => trivial) (by rfl) (by kernel_rfl) hS (.inl ⟨by kernel_rfl, fun w1 ⟨c0, c1, c2, c3, c4, c5, c6, c7, c8, c9, d0, d1, d2, d3, _⟩ => ?qay11⟩) ?_
  case qay11 => (go_simp; try first | rfl | (rw [if_pos (by omega)]) | (rw [if_neg (by omega)]) | (rw [if_neg (by simp; omega)]) | (split <;> first | (exfalso; omega) | rfl))
  refine takeH 12 (v := ?qav12) (fun _ => trivial) (by rfl) (by kernel_rfl) hS (.inl ⟨by kernel_rfl, fun w1 ⟨c0, c1, c2, c3, c4, c5, c6, c7, c8, c9, d0, d1, d2, d3, _⟩ => ?qay12⟩) ?_
  case qay12 => (go_simp; try first | rfl | (rw [if_pos (by omega)]) | (rw [if_neg (by omega)]) | (rw [if_neg (by simp; omega)]) | (split <;> first | (exfalso; omega) | rfl))
  refine takeH 13 (v := ?qav13) (fun _ => trivial) (by rfl) (by kernel_rfl) hS (.inl ⟨by kernel_rfl, fun w1 ⟨c0, c1, c2, c3, c4, c5, c6, c7, c8, c9, d0, d1, d2, d3, _⟩ => ?qay13⟩) ?_
  case qay13 => (go_simp; try first | rfl | (rw [if_pos (by omega)]) | (rw [if_neg (by omega)]) | (rw [if_neg (by simp; omega)]) | (split <;> first | (exfalso; omega) | rfl))
  refine takeH 14 (v := ?qav14) (fun _ => trivial) (by rfl) (by kernel_rfl) hS (.inl ⟨by kernel_rfl, fun w1 ⟨c0, c1, c2, c3, c4, c5, c6, c7, c8, c9, d0, d1, d2, d3, _⟩ => ?qay14⟩) ?_
  case qay14 => (go_simp; try first | rfl | (rw [if_pos (by omega)]) | (rw [if_neg (by omega)]) | (rw [if_neg (by simp; omega)]) | (split <;> first | (exfalso; omega) | rfl))
  refine takeH 15 (v := ?qav15) (fun _ => trivial) (by rfl) (by kernel_rfl) hS (.inl ⟨by kernel_rfl, fun w1 ⟨c0, c1, c2, c3, c4, c5, c6, c7, c8, c9, d0, d1, d2, d3, _⟩ => ?qay15⟩) ?_
  case qay15 => (go_simp; try first | rfl | (rw [if_pos (by omega)]) | (rw [if_neg (by omega)]) | (rw [if_neg (by simp; omega)]) | (split <;> first | (exfalso; omega) | rfl))
  simp only [Act.put, List.setIfInBounds_toArray, List.set_cons_succ, List.set_cons_zero]
  refine takeH 16 (v := ?qav16) (fun _ => trivial) (by rfl) (by kernel_rfl) hS (.inl ⟨by kernel_rfl, fun w1 ⟨c0, c1, c2, c3, c4, c5, c6, c7, c8, c9, d0, d1, d2, d3, _⟩ => ?qay16⟩) ?_
  case qay16 => (go_simp; try first | rfl | (rw [if_pos (by omega)]) | (rw [if_neg (by omega)]) | (rw [if_neg (by simp; omega)]) | (split <;> first | (exfalso; omega) | rfl))
  refine takeH 17 (v := ?qav17) (fun _ => trivial) (by rfl) (by kernel_rfl) hS (.inl ⟨by kernel_rfl, fun w1 ⟨c0, c1, c2, c3, c4, c5, c6, c7, c8, c9, d0, d1, d2, d3, _⟩ => ?qay17⟩) ?_
  case qay17 => (go_simp; try first | rfl | (rw [if_pos (by omega)]) | (rw [if_neg (by omega)]) | (rw [if_neg (by simp; omega)]) | (split <;> first | (exfalso; omega) | rfl))
  refine takeH 18 (v := ?qav18) (fun _ => trivial) (by rfl) (by kernel_rfl) hS (.inl ⟨by kernel_rfl, fun w1 ⟨c0, c1, c2, c3, c4, c5, c6, c7, c8, c9, d0, d1, d2, d3, _⟩ => ?qay18⟩) ?_
  case qay18 => (go_simp; try first | rfl | (rw [if_pos (by omega)]) | (rw [if_neg (by omega)]) | (rw [if_neg (by simp; omega)]) | (split <;> first | (exfalso; omega) | rfl))
  refine takeH 19 (v := ?qav19) (fun _ => trivial) (by rfl) (by kernel_rfl) hS (.inl ⟨by kernel_rfl, fun w1 ⟨c0, c1, c2, c3, c4, c5, c6, c7, c8, c9, d0, d1, d2, d3, _⟩ => ?qay19⟩) ?_
  case qay19 => (go_simp; try first | rfl | (rw [if_pos (by omega)]) | (rw [if_neg (by omega)]) | (rw [if_neg (by simp; omega)]) | (split <;> first | (exfalso; omega) | rfl))
  refine takeH 20 (v := ?qav20) (fun _ => trivial) (by rfl) (by kernel_rfl) hS (.inl ⟨by kernel_rfl, fun w1 ⟨c0, c1, c2, c3, c4, c5, c6, c7, c8, c9, d0, d1, d2, d3, _⟩ => ?qay20⟩) ?_
  case qay20 => (go_simp; try first | rfl | (rw [if_pos (by omega)]) | (rw [if_neg (by omega)]) | (rw [if_neg (by simp; omega)]) | (split <;> first | (exfalso; omega) | rfl))
  refine takeH 21 (v := ?qav21) (fun _ => trivial) (by rfl) (by kernel_rfl) hS (.inl ⟨by kernel_rfl, fun w1 ⟨c0, c1, c2, c3, c4, c5, c6, c7, c8, c9, d0, d1, d2, d3, _⟩ => ?qay21⟩) ?_
  case qay21 => (go_simp; try first | rfl | (rw [if_pos (by omega)]) | (rw [if_neg (by omega)]) | (rw [if_neg (by simp; omega)]) | (split <;> first | (exfalso; omega) | rfl))
  refine takeH 22 (v := ?qav22) (fun _ => trivial) (by rfl) (by kernel_rfl) hS (.inl ⟨by kernel_rfl, fun w1 ⟨c0, c1, c2, c3, c4, c5, c6, c7, c8, c9, d0, d1, d2, d3, _⟩ => ?qay22⟩) ?_
  case qay22 => (go_simp; try first | rfl | (rw [if_pos (by omega)]) | (rw [if_neg (by omega)]) | (rw [if_neg (by simp; omega)]) | (split <;> first | (exfalso; omega) | rfl))
  refine takeH 23 (v := ?qav23) (fun _ => trivial) (by rfl) (by kernel_rfl) hS (.inl ⟨by kernel_rfl, fun w1 ⟨c0, c1, c2, c3, c4, c5, c6, c7, c8, c9, d0, d1, d2, d3, _⟩ => ?qay23⟩) ?_
  case qay23 => (go_simp; try first | rfl | (rw [if_pos (by omega)]) | (rw [if_neg (by omega)]) | (rw [if_neg (by simp; omega)]) | (split <;> first | (exfalso; omega) | rfl))
  simp only [Act.put, List.setIfInBounds_toArray, List.set_cons_succ, List.set_cons_zero]
  refine takeH 24 (v := ?qav24) (fun _ => trivial) (by rfl) (by kernel_rfl) hS (.inl ⟨by kernel_rfl, fun w1 ⟨c0, c1, c2, c3, c4, c5, c6, c7, c8, c9, d0, d1, d2, d3, _⟩ => ?qay24⟩) ?_
  case qay24 => (go_simp; try first | rfl | (rw [if_pos (by omega)]) | (rw [if_neg (by omega)]) | (rw [if_neg (by simp; omega)]) | (split <;> first | (exfalso; omega) | rfl))
  refine takeH 25 (v := ?qav25) (fun _ => trivial) (by rfl) (by kernel_rfl) hS (.inl ⟨by kernel_rfl, fun w1 ⟨c0, c1, c2, c3, c4, c5, c6, c7, c8, c9, d0, d1, d2, d3, _⟩ => ?qay25⟩) ?_
  case qay25 => (go_simp; try first | rfl | (rw [if_pos (by omega)]) | (rw [if_neg (by omega)]) | (rw [if_neg (by simp; omega)]) | (split <;> first | (exfalso; omega) | rfl))
  refine takeH 26 (v := ?qav26) (fun _ => trivial) (by rfl) (by kernel_rfl) hS (.inl ⟨by kernel_rfl, fun w1 ⟨c0, c1, c2, c3, c4, c5, c6, c7, c8, c9, d0, d1, d2, d3, _⟩ => ?qay26⟩) ?_
  case qay26 => (go_simp; try first | rfl | (rw [if_pos (by omega)]) | (rw [if_neg (by omega)]) | (rw [if_neg (by simp; omega)]) | (split <;> first | (exfalso; omega) | rfl))
  refine takeH 27 (v := ?qav27) (fun _ => trivial) (by rfl) (by kernel_rfl) hS (.inl ⟨by kernel_rfl, fun w1 ⟨c0, c1, c2, c3, c4, c5, c6, c7, c8, c9, d0, d1, d2, d3, _⟩ => ?qay27⟩) ?_
  case qay27 => (go_simp; try first | rfl | (rw [if_pos (by omega)]) | (rw [if_neg (by omega)]) | (rw [if_neg (by simp; omega)]) | (split <;> first | (exfalso; omega) | rfl))
  refine takeH 28 (v := ?qav28) (fun _ => trivial) (by rfl) (by kernel_rfl) hS (.inl ⟨by kernel_rfl, fun w1 ⟨c0, c1, c2, c3, c4, c5, c6, c7, c8, c9, d0, d1, d2, d3, _⟩ => ?qay28⟩) ?_
  case qay28 => (go_simp; try first | rfl | (rw [if_pos (by omega)]) | (rw [if_neg (by omega)]) | (rw [if_neg (by simp; omega)]) | (split <;> first | (exfalso; omega) | rfl))
  refine takeH 29 (v := ?qav29) (fun _ => trivial) (by rfl) (by kernel_rfl) hS (.inl ⟨by kernel_rfl, fun w1 ⟨c0, c1, c2, c3, c4, c5, c6, c7, c8, c9, d0, d1, d2, d3, _⟩ => ?qay29⟩) ?_
  case qay29 => (go_simp; try first | rfl | (rw [if_pos (by omega)]) | (rw [if_neg (by omega)]) | (rw [if_neg (by simp; omega)]) | (split <;> first | (exfalso; omega) | rfl))
  refine takeH 30 (v := ?qav30) (fun _ => trivial) (by rfl) (by kernel_rfl) hS (.inl ⟨by kernel_rfl, fun w1 ⟨c0, c1, c2, c3, c4, c5, c6, c7, c8, c9, d0, d1, d2, d3, _⟩ => ?qay30⟩) ?_
  case qay30 => (go_simp; try first | rfl | (rw [if_pos (by omega)]) | (rw [if_neg (by omega)]) | (rw [if_neg (by simp; omega)]) | (split <;> first | (exfalso; omega) | rfl))
  refine takeH 31 (v := ?qav31) (fun _ => trivial) (by rfl) (by kernel_rfl) hS (.inl ⟨by kernel_rfl, fun w1 ⟨c0, c1, c2, c3, c4, c5, c6, c7, c8, c9, d0, d1, d2, d3, _⟩ => ?qay31⟩) ?_
  case qay31 => (go_simp; try first | rfl | (rw [if_pos (by omega)]) | (rw [if_neg (by omega)]) | (rw [if_neg (by simp; omega)]) | (split <;> first | (exfalso; omega) | rfl))
  simp only [Act.put, List.setIfInBounds_toArray, List.set_cons_succ, List.set_cons_zero]
  refine takeH 32 (v := ?qav32) (fun _ => trivial) (by rfl) (by kernel_rfl) hS (.inl ⟨by kernel_rfl, fun w1 ⟨c0, c1, c2, c3, c4, c5, c6, c7, c8, c9, d0, d1, d2, d3, _⟩ => ?qay32⟩) ?_
  case qay32 => (go_simp; try first | rfl | (rw [if_pos (by omega)]) | (rw [if_neg (by omega)]) | (rw [if_neg (by simp; omega)]) | (split <;> first | (exfalso; omega) | rfl))
  refine takeH 33 (v := ?qav33) (fun _ => trivial) (by rfl) (by kernel_rfl) hS (.inl ⟨by kernel_rfl, fun w1 ⟨c0, c1, c2, c3, c4, c5, c6, c7, c8, c9, d0, d1, d2, d3, _⟩ => ?qay33⟩) ?_
  case qay33 => (go_simp; try first | rfl | (rw [if_pos (by omega)]) | (rw [if_neg (by omega)]) | (rw [if_neg (by simp; omega)]) | (split <;> first | (exfalso; omega) | rfl))
  refine takeH 34 (v := ?qav34) (fun _ => trivial) (by rfl) (by kernel_rfl) hS (.inl ⟨by kernel_rfl, fun w1 ⟨c0, c1, c2, c3, c4, c5, c6, c7, c8, c9, d0, d1, d2, d3, _⟩ => ?qay34⟩) ?_
  case qay34 => (go_simp; try first | rfl | (rw [if_pos (by omega)]) | (rw [if_neg (by omega)]) | (rw [if_neg (by simp; omega)]) | (split <;> first | (exfalso; omega) | rfl))
  refine takeH 35 (v := ?qav35) (fun _ => trivial) (by rfl) (by kernel_rfl) hS (.inl ⟨by kernel_rfl, fun w1 ⟨c0, c1, c2, c3, c4, c5, c6, c7, c8, c9, d0, d1, d2, d3, _⟩ => ?qay35⟩) ?_
  case qay35 => (go_simp; try first | rfl | (rw [if_pos (by omega)]) | (rw [if_neg (by omega)]) | (rw [if_neg (by simp; omega)]) | (split <;> first | (exfalso; omega) | rfl))
  refine takeH 36 (v := ?qav36) (fun _ => trivial) (by rfl) (by kernel_rfl) hS (.inl ⟨by kernel_rfl, fun w1 ⟨c0, c1, c2, c3, c4, c5, c6, c7, c8, c9, d0, d1, d2, d3, _⟩ => ?qay36⟩) ?_
  case qay36 => (go_simp; try first | rfl | (rw [if_pos (by omega)]) | (rw [if_neg (by omega)]) | (rw [if_neg (by simp; omega)]) | (split <;> first | (exfalso; omega) | rfl))
  refine takeH 37 (v := ?qav37) (fun _ => trivial) (by rfl) (by kernel_rfl) hS (.inl ⟨by kernel_rfl, fun w1 ⟨c0, c1, c2, c3, c4, c5, c6, c7, c8, c9, d0, d1, d2, d3, _⟩ => ?qay37⟩) ?_
  case qay37 => (go_simp; try first | rfl | (rw [if_pos (by omega)]) | (rw [if_neg (by omega)]) | (rw [if_neg (by simp; omega)]) | (split <;> first | (exfalso; omega) | rfl))
  refine takeH 38 (v := ?qav38) (fun _ => trivial) (by rfl) (by kernel_rfl) hS (.inl ⟨by kernel_rfl, fun w1 ⟨c0, c1, c2, c3, c4, c5, c6, c7, c8, c9, d0, d1, d2, d3, _⟩ => ?qay38⟩) ?_
  case qay38 => (go_simp; try first | rfl | (rw [if_pos (by omega)]) | (rw [if_neg (by omega)]) | (rw [if_neg (by simp; omega)]) | (split <;> first | (exfalso; omega) | rfl))
  refine takeH 39 (v := ?qav39) (fun _ => trivial) (by rfl) (by kernel_rfl) hS (.inl ⟨by kernel_rfl, fun w1 ⟨c0, c1, c2, c3, c4, c5, c6, c7, c8, c9, d0, d1, d2, d3, _⟩ => ?qay39⟩) ?_
  case qay39 => (go_simp; try first | rfl | (rw [if_pos (by omega)]) | (rw [if_neg (by omega)]) | (rw [if_neg (by simp; omega)]) | (split <;> first | (exfalso; omega) | rfl))
  simp only [Act.put, List.setIfInBounds_toArray, List.set_cons_succ, List.set_cons_zero]
  refine takeH 40 (v := ?qav40) (fun _ => trivial) (by rfl) (by kernel_rfl) hS (.inl ⟨by kernel_rfl, fun w1 ⟨c0, c1, c2, c3, c4, c5, c6, c7, c8, c9, d0, d1, d2, d3, _⟩ => ?qay40⟩) ?_
  case qay40 => (go_simp; try first | rfl | (rw [if_pos (by omega)]) | (rw [if_neg (by omega)]) | (rw [if_neg (by simp; omega)]) | (split <;> first | (exfalso; omega) | rfl))
  refine takeH 41 (v := ?qav41) (fun _ => trivial) (by rfl) (by kernel_rfl) hS (.inl ⟨by kernel_rfl, fun w1 ⟨c0, c1, c2, c3, c4, c5, c6, c7, c8, c9, d0, d1, d2, d3, _⟩ => ?qay41⟩) ?_
  case qay41 => (go_simp; try first | rfl | (rw [if_pos (by omega)]) | (rw [if_neg (by omega)]) | (rw [if_neg (by simp; omega)]) | (split <;> first | (exfalso; omega) | rfl))
  refine takeH 42 (v := ?qav42) (fun _ => trivial) (by rfl) (by kernel_rfl) hS (.inl ⟨by kernel_rfl, fun w1 ⟨c0, c1, c2, c3, c4, c5, c6, c7, c8, c9, d0, d1, d2, d3, _⟩ => ?qay42⟩) ?_
  case qay42 => (go_simp; try first | rfl | (rw [if_pos (by omega)]) | (rw [if_neg (by omega)]) | (rw [if_neg (by simp; omega)]) | (split <;> first | (exfalso; omega) | rfl))
  refine takeH 43 (v := ?qav43) (fun _ => trivial) (by rfl) (by kernel_rfl) hS (.inl ⟨by kernel_rfl, fun w1 ⟨c0, c1, c2, c3, c4, c5, c6, c7, c8, c9, d0, d1, d2, d3, _⟩ => ?qay43⟩) ?_
  case qay43 => (go_simp; try first | rfl | (rw [if_pos (by omega)]) | (rw [if_neg (by omega)]) | (rw [if_neg (by simp; omega)]) | (split <;> first | (exfalso; omega) | rfl))
  refine takeH 44 (v := ?qav44) (fun _ => trivial) (by rfl) (by kernel_rfl) hS (.inl ⟨by kernel_rfl, fun w1 ⟨c0, c1, c2, c3, c4, c5, c6, c7, c8, c9, d0, d1, d2, d3, _⟩ => ?qay44⟩) ?_
  case qay44 => (go_simp; try first | rfl | (rw [if_pos (by omega)]) | (rw [if_neg (by omega)]) | (rw [if_neg (by simp; omega)]) | (split <;> first | (exfalso; omega) | rfl))
  refine takeH 45 (v := ?qav45) (fun _ => trivial) (by rfl) (by kernel_rfl) hS (.inl ⟨by kernel_rfl, fun w1 ⟨c0, c1, c2, c3, c4, c5, c6, c7, c8, c9, d0, d1, d2, d3, _⟩ => ?qay45⟩) ?_
  case qay45 => (go_simp; try first | rfl | (rw [if_pos (by omega)]) | (rw [if_neg (by omega)]) | (rw [if_neg (by simp; omega)]) | (split <;> first | (exfalso; omega) | rfl))
  refine takeH 46 (v := ?qav46) (fun _ => trivial) (by rfl) (by kernel_rfl) hS (.inl ⟨by kernel_rfl, fun w1 ⟨c0, c1, c2, c3, c4, c5, c6, c7, c8, c9, d0, d1, d2, d3, _⟩ => ?qay46⟩) ?_
  case qay46 => (go_simp; try first | rfl | (rw [if_pos (by omega)]) | (rw [if_neg (by omega)]) | (rw [if_neg (by simp; omega)]) | (split <;> first | (exfalso; omega) | rfl))
  refine takeH 47 (v := ?qav47) (fun _ => trivial) (by rfl) (by kernel_rfl) hS (.inl ⟨by kernel_rfl, fun w1 ⟨c0, c1, c2, c3, c4, c5, c6, c7, c8, c9, d0, d1, d2, d3, _⟩ => ?qay47⟩) ?_
  case qay47 => (go_simp; try first | rfl | (rw [if_pos (by omega)]) | (rw [if_neg (by omega)]) | (rw [if_neg (by simp; omega)]) | (split <;> first | (exfalso; omega) | rfl))
  simp only [Act.put, List.setIfInBounds_toArray, List.set_cons_succ, List.set_cons_zero]
  refine oneH 48 (by rfl) (by kernel_rfl) (fun K hK => ?_)
  gi_wp2_with fail
  have hba : Below w'.heap.size w' (w'.alloc (.cells #[S [120]] 9)) := (Below.refl _ _).alloc (Nat.le_refl _) _
  refine hK _ _ (fun _ => hS.below hba) ?_
  clear hK K
  obtain ⟨A6, hA6⟩ : ∃ A, w'.alloc (.cells #[S [120]] 9) = A := ⟨_, rfl⟩
  have hn6 : Rd (.slice (some ⟨w'.heap.size, 0, none⟩) 1 1) [[120]] A6 := by rw [← hA6]; exact rd_new [[120]] w' (by decide)
  rw [hA6] at hba ⊢
  have hS6 := hS.below hba
  have hb7 := below5 hb6 hba
  have HSM := Lib.hid (nSame_any _ _ [[120]] [[120]] A6 (HR5.out.below hb7) hn6 (nb_ok (by decide)) (nb_ok (by decide)))
  rw [Nm.same_refl] at HSM
  have HT7 := Lib.hid (below5 HT5.out hb7)
  have HB7 := Lib.hid (below5 HB5.out hb7)
  clear hS hA6 hn6 hba hb7 hb6
  refine oneH 49 (by rfl) (by kernel_rfl) (fun K hK => ?_)
  gi_wp2_with (gi_at_call 17; refine (callsIn_wide.2 HSM.out).mono ?_; rintro e w7 ⟨rfl, b7⟩)
  have hS7 := hS6.below b7
  refine hK _ _ (fun _ => hS7) ?_
  clear hK K hS6 HSM
  have HT8 := Lib.hid (below5 HT7.out b7)
  have HB8 := Lib.hid (below5 HB7.out b7)
  clear b7
  have hS := hS7
  refine takeH 50 (v := ?qbv50) (fun _ => trivial) (by rfl) (by kernel_rfl) hS (.inl ⟨by kernel_rfl, fun w1 ⟨c0, c1, c2, c3, c4, c5, c6, c7, c8, c9, d0, d1, d2, d3, _⟩ => ?qby50⟩) ?_
  case qby50 => (go_simp; try first | rfl | (rw [if_pos (by omega)]) | (rw [if_neg (by omega)]) | (rw [if_neg (by simp; omega)]) | (split <;> first | (exfalso; omega) | rfl))
  refine takeH 51 (v := ?qbv51) (fun _ => trivial) (by rfl) (by kernel_rfl) hS (.inl ⟨by kernel_rfl, fun w1 ⟨c0, c1, c2, c3, c4, c5, c6, c7, c8, c9, d0, d1, d2, d3, _⟩ => ?qby51⟩) ?_
  case qby51 => (go_simp; try first | rfl | (rw [if_pos (by omega)]) | (rw [if_neg (by omega)]) | (rw [if_neg (by simp; omega)]) | (split <;> first | (exfalso; omega) | rfl))
  refine takeH 52 (v := ?qbv52) (fun _ => trivial) (by rfl) (by kernel_rfl) hS (.inl ⟨by kernel_rfl, fun w1 ⟨c0, c1, c2, c3, c4, c5, c6, c7, c8, c9, d0, d1, d2, d3, _⟩ => ?qby52⟩) ?_
  case qby52 => (go_simp; try first | rfl | (rw [if_pos (by omega)]) | (rw [if_neg (by omega)]) | (rw [if_neg (by simp; omega)]) | (split <;> first | (exfalso; omega) | rfl))
  refine takeH 53 (v := ?qbv53) (fun _ => trivial) (by rfl) (by kernel_rfl) hS (.inl ⟨by kernel_rfl, fun w1 ⟨c0, c1, c2, c3, c4, c5, c6, c7, c8, c9, d0, d1, d2, d3, _⟩ => ?qby53⟩) ?_
  case qby53 => (go_simp; try first | rfl | (rw [if_pos (by omega)]) | (rw [if_neg (by omega)]) | (rw [if_neg (by simp; omega)]) | (split <;> first | (exfalso; omega) | rfl))
  refine takeH 54 (v := ?qbv54) (fun _ => trivial) (by rfl) (by kernel_rfl) hS (.inl ⟨by kernel_rfl, fun w1 ⟨c0, c1, c2, c3, c4, c5, c6, c7, c8, c9, d0, d1, d2, d3, _⟩ => ?qby54⟩) ?_
  case qby54 => (go_simp; try first | rfl | (rw [if_pos (by omega)]) | (rw [if_neg (by omega)]) | (rw [if_neg (by simp; omega)]) | (split <;> first | (exfalso; omega) | rfl))
  refine takeH 55 (v := ?qbv55) (fun _ => trivial) (by rfl) (by kernel_rfl) hS (.inl ⟨by kernel_rfl, fun w1 ⟨c0, c1, c2, c3, c4, c5, c6, c7, c8, c9, d0, d1, d2, d3, _⟩ => ?qby55⟩) ?_
  case qby55 => (go_simp; try first | rfl | (rw [if_pos (by omega)]) | (rw [if_neg (by omega)]) | (rw [if_neg (by simp; omega)]) | (split <;> first | (exfalso; omega) | rfl))
  simp only [Act.put, List.setIfInBounds_toArray, List.set_cons_succ, List.set_cons_zero]
  have HEQ := Lib.hid (setEqual_any (w0 := w7) po no qo 1 5 oo2 no2 co2 1 5 (.slice od 2 cd) (.slice of2 2 cf2) (x0 :: xs0) [y0, y1] (below5 HB1.out HT8.out) (HD0.out.below HT8.out) (HDY.out.below HB8.out) (by have := congrArg List.length HK0.out; simp [plE] at this; simp [this]) (by simp))
  rw [HK0.out, HC2.out, Rs.k_same] at HEQ
  clear hS
  refine oneH 56 (by rfl) (by kernel_rfl) (fun K hK => ?_)
  gi_wp2_with (gi_at_call 40; refine (callsIn_wide.2 HEQ.out).mono ?_; rintro e w8 ⟨rfl, b8⟩)
  have hS8 := hS7.below b8
  refine hK _ _ (fun _ => hS8) ?_
  clear hK K hS7 HEQ
  have HT9 := Lib.hid (below5 HT8.out b8)
  clear b8
  have hS := hS8
  refine takeH 57 (v := ?qcv57) (fun _ => trivial) (by rfl) (by kernel_rfl) hS (.inl ⟨by kernel_rfl, fun w1 ⟨c0, c1, c2, c3, c4, c5, c6, c7, c8, c9, d0, d1, d2, d3, _⟩ => ?qcy57⟩) ?_
  case qcy57 => (go_simp; try first | rfl | (rw [if_pos (by omega)]) | (rw [if_neg (by omega)]) | (rw [if_neg (by simp; omega)]) | (split <;> first | (exfalso; omega) | rfl))
  refine takeH 58 (v := ?qcv58) (fun _ => trivial) (by rfl) (by kernel_rfl) hS (.inl ⟨by kernel_rfl, fun w1 ⟨c0, c1, c2, c3, c4, c5, c6, c7, c8, c9, d0, d1, d2, d3, _⟩ => ?qcy58⟩) ?_
  case qcy58 => (go_simp; try first | rfl | (rw [if_pos (by omega)]) | (rw [if_neg (by omega)]) | (rw [if_neg (by simp; omega)]) | (split <;> first | (exfalso; omega) | rfl))
  refine takeH 59 (v := ?qcv59) (fun _ => trivial) (by rfl) (by kernel_rfl) hS (.inl ⟨by kernel_rfl, fun w1 ⟨c0, c1, c2, c3, c4, c5, c6, c7, c8, c9, d0, d1, d2, d3, _⟩ => ?qcy59⟩) ?_
  case qcy59 => (go_simp; try first | rfl | (rw [if_pos (by omega)]) | (rw [if_neg (by omega)]) | (rw [if_neg (by simp; omega)]) | (split <;> first | (exfalso; omega) | rfl))
  refine takeH 60 (v := ?qcv60) (fun _ => trivial) (by rfl) (by kernel_rfl) hS (.inl ⟨by kernel_rfl, fun w1 ⟨c0, c1, c2, c3, c4, c5, c6, c7, c8, c9, d0, d1, d2, d3, _⟩ => ?qcy60⟩) ?_
  case qcy60 => (go_simp; try first | rfl | (rw [if_pos (by omega)]) | (rw [if_neg (by omega)]) | (rw [if_neg (by simp; omega)]) | (split <;> first | (exfalso; omega) | rfl))
  refine takeH 62 (v := ?qcv62) (fun _ => trivial) (by rfl) (by kernel_rfl) hS (.inl ⟨by kernel_rfl, fun w1 ⟨c0, c1, c2, c3, c4, c5, c6, c7, c8, c9, d0, d1, d2, d3, _⟩ => ?qcy62⟩) ?_
  case qcy62 => (go_simp; try first | rfl | (rw [if_pos (by omega)]) | (rw [if_neg (by omega)]) | (rw [if_neg (by simp; omega)]) | (split <;> first | (exfalso; omega) | rfl))
  refine takeH 63 (v := ?qcv63) (fun _ => trivial) (by rfl) (by kernel_rfl) hS (.inl ⟨by kernel_rfl, fun w1 ⟨c0, c1, c2, c3, c4, c5, c6, c7, c8, c9, d0, d1, d2, d3, _⟩ => ?qcy63⟩) ?_
  case qcy63 => (go_simp; try first | rfl | (rw [if_pos (by omega)]) | (rw [if_neg (by omega)]) | (rw [if_neg (by simp; omega)]) | (split <;> first | (exfalso; omega) | rfl))
  refine takeH 61 (v := ?qcv61) (fun _ => trivial) (by rfl) (by kernel_rfl) hS (.inl ⟨by kernel_rfl, fun w1 ⟨c0, c1, c2, c3, c4, c5, c6, c7, c8, c9, d0, d1, d2, d3, _⟩ => ?qcy61⟩) ?_
  case qcy61 => (go_simp; try first | rfl | (rw [if_pos (by omega)]) | (rw [if_neg (by omega)]) | (rw [if_neg (by simp; omega)]) | (split <;> first | (exfalso; omega) | rfl))
  refine takeH 64 (v := ?qcv64) (fun _ => trivial) (by rfl) (by kernel_rfl) hS (.inl ⟨by kernel_rfl, fun w1 ⟨c0, c1, c2, c3, c4, c5, c6, c7, c8, c9, d0, d1, d2, d3, _⟩ => ?qcy64⟩) ?_
  case qcy64 => (go_simp; try first | rfl | (rw [if_pos (by omega)]) | (rw [if_neg (by omega)]) | (rw [if_neg (by simp; omega)]) | (split <;> first | (exfalso; omega) | rfl))
  simp only [Act.put, List.setIfInBounds_toArray, List.set_cons_succ, List.set_cons_zero]
  have HEQ := Lib.hid (setEqual_any (w0 := w8) po no qo 1 5 pp np qp 2 (Rs.ttl Rs.kc [Rs.kc]) (.slice od 2 cd) (.slice oe 1 ce) (x0 :: xs0) (x1 :: xs1) (below5 HB1.out HT9.out) (HD0.out.below HT9.out) (HD1.out.below HT9.out) (by have := congrArg List.length HK0.out; simp [plE] at this; simp [this]) (by have := congrArg List.length HK1.out; simp [plE] at this; simp [this]))
  rw [HK0.out, HK1.out, Rs.k_apart] at HEQ
  clear hS
  refine oneH 65 (by rfl) (by kernel_rfl) (fun K hK => ?_)
  gi_wp2_with (gi_at_call 40; refine (callsIn_wide.2 HEQ.out).mono ?_; rintro e w9 ⟨rfl, b9⟩)
  have hS := hS8.below b9
  refine hK _ _ (fun _ => hS) ?_
  clear hK K hS8 HEQ
  have HTA := Lib.hid (below5 HT9.out b9)
  clear b9
  refine takeH 66 (v := ?qdv66) (fun _ => trivial) (by rfl) (by kernel_rfl) hS (.inl ⟨by kernel_rfl, fun w1 ⟨c0, c1, c2, c3, c4, c5, c6, c7, c8, c9, d0, d1, d2, d3, _⟩ => ?qdy66⟩) ?_
  case qdy66 => (go_simp; try first | rfl | (rw [if_pos (by omega)]) | (rw [if_neg (by omega)]) | (rw [if_neg (by simp; omega)]) | (split <;> first | (exfalso; omega) | rfl))
  refine takeH 67 (v := ?qdv67) (fun _ => trivial) (by rfl) (by kernel_rfl) hS (.inl ⟨by kernel_rfl, fun w1 ⟨c0, c1, c2, c3, c4, c5, c6, c7, c8, c9, d0, d1, d2, d3, _⟩ => ?qdy67⟩) ?_
  case qdy67 => (go_simp; try first | rfl | (rw [if_pos (by omega)]) | (rw [if_neg (by omega)]) | (rw [if_neg (by simp; omega)]) | (split <;> first | (exfalso; omega) | rfl))
  simp only [Act.put, List.setIfInBounds_toArray, List.set_cons_succ, List.set_cons_zero]
  refine oneH 68 (by rfl) (by kernel_rfl) (fun K hK => ?_)
  gi_wp2_with fail
  refine hK _ _ (fun h => absurd h (by decide)) ?_
  clear hK K
  refine doneH (by kernel_rfl) ?_
  gi_wp2_with fail
  go_ret
  exact ⟨rfl, below5 HBW.out (below5 HB1.out HTA.out)⟩
end Go.Proofs.Ytneghhbclefmoaa
end
section
namespace Go.Proofs.Ytneghhbclefmoaa
open Go.RowKit Go.Shelf Go.Sort
set_option maxRecDepth 100000

namespace Rs
open Rc
/-- owner and type alone -/
def cmpK (a b : PRec) : Int := orI (Nm.cmp a.owner b.owner) (Nm.sgn a.type b.type)
theorem cmpK_cm : Cm cmpK := (name_cm.pull PRec.owner).or (sgn_cm.pull PRec.type)
theorem sgn_self (a : Int) : Nm.sgn a a = 0 := by unfold Nm.sgn; simp
theorem cmpK_zero {a b : PRec} : cmpK a b = 0 ↔ P a b = true := by
  unfold cmpK P
  rw [orI_zero, Bool.and_eq_true, beq_iff_eq]
  have h := Nm.cmp_zero a.owner b.owner
  constructor
  · rintro ⟨h1, h2⟩
    refine ⟨sgn_zero h2, ?_⟩
    rw [h1] at h; exact h.symm
  · rintro ⟨h1, h2⟩
    rw [h2] at h
    exact ⟨by simpa using h, by rw [h1]; exact sgn_self _⟩
theorem cmp_key {a b : PRec} : cmp a b = orI (cmpK a b) (cmpD a b) := by
  unfold cmp cmpK orI
  by_cases h : Nm.cmp a.owner b.owner = 0 <;> by_cases h2 : Nm.sgn a.type b.type = 0 <;> simp [h, h2]
theorem cmp_le_key {a b : PRec} (h : cmp a b ≤ 0) : cmpK a b ≤ 0 := by
  rw [cmp_key] at h; unfold orI at h; split at h <;> omega
theorem key_of_cmp {a b : PRec} (h : cmp a b = 0) : cmpK a b = 0 := by
  rw [cmp_key] at h; exact (orI_zero.1 h).1
/-- what asks alike of what is alike -/
def Inv (q : PRec → Bool) : Prop := ∀ a b, cmp a b = 0 → q a = q b
theorem Q_inv (o : List (List UInt8)) (t : Int) : Inv (Q o t) := fun a b h => by
  unfold Q Nm.same
  rw [cmp_type h, cmp_owner h]
theorem put_cons (x y : PRec) (L : List PRec) : put x (y :: L) = if cmp y x < 0 then y :: put x L else if cmp y x = 0 then (if x.ttl < y.ttl then { y with ttl := x.ttl } else y) :: L else x :: y :: L := rfl
theorem put_ahead {x : PRec} : ∀ {L : List PRec}, (∀ y ∈ L, 0 < cmp y x) → put x L = x :: L
  | [], _ => rfl
  | y :: L, h => by
    have := h y List.mem_cons_self
    rw [put_cons, if_neg (by omega), if_neg (by omega)]
theorem put_filter {q : PRec → Bool} (hq : Inv q) (x : PRec) : ∀ {L : List PRec}, Strict L → (put x L).filter q = if q x then put x (L.filter q) else L.filter q
  | [], _ => by unfold put; by_cases h : q x = true <;> simp [h]
  | y :: L, hs => by
    have hs' := List.pairwise_cons.1 hs
    rw [put_cons]
    split
    · rename_i hlt
      rw [List.filter_cons, List.filter_cons, put_filter hq x hs'.2]
      by_cases hx : q x = true <;> by_cases hy : q y = true <;> simp only [hx, hy, if_true, if_false, Bool.false_eq_true]
      rw [put_cons, if_pos hlt]
    · split
      · rename_i hnl h0
        have hyx := hq y x h0
        have hy' : ∀ z : PRec, (z = y ∨ z = { y with ttl := x.ttl }) → q z = q x := fun z hz => by
          rcases hz with rfl | rfl
          · exact hyx
          · rw [← hyx]; exact hq _ _ (cmp_cm.refl y)
        by_cases hx : q x = true
        · rw [List.filter_cons, hy' _ (by split <;> simp), if_pos hx, if_pos hx, List.filter_cons, hyx, if_pos hx, put_cons, if_neg hnl, if_pos h0]
        · rw [List.filter_cons, hy' _ (by split <;> simp), if_neg hx, if_neg hx, List.filter_cons, hyx, if_neg hx]
      · rename_i hnl h0
        by_cases hx : q x = true
        · rw [List.filter_cons, if_pos hx, if_pos hx, put_ahead]
          intro z hz
          have hzm := (List.mem_filter.1 hz).1
          have ha := cmp_cm.anti y x
          rcases List.mem_cons.1 hzm with rfl | hzm
          · omega
          · have h1 := hs'.1 z hzm
            have h2 := cmp_cm.lt_le (a := x) (b := y) (c := z) (by omega) (by omega)
            have h3 := cmp_cm.anti x z
            omega
        · rw [List.filter_cons, if_neg hx, if_neg hx]
theorem canon_filter {q : PRec → Bool} (hq : Inv q) (l : List PRec) : canon (l.filter q) = (canon l).filter q := by
  suffices H : ∀ n (l : List PRec), l.length = n → canon (l.filter q) = (canon l).filter q from H _ l rfl
  intro n
  induction n with
  | zero => intro l hl; obtain rfl := List.length_eq_zero_iff.1 hl; rfl
  | succ n ih =>
    intro l hl
    obtain ⟨l', x, rfl⟩ : ∃ l' x, l = l' ++ [x] := by
      rcases List.eq_nil_or_concat l with h | ⟨l', x, h⟩
      · rw [h] at hl; simp at hl
      · exact ⟨l', x, by rw [h, List.concat_eq_append]⟩
    have ih' := ih l' (by simpa using hl)
    rw [canon_eq (l' ++ [x]), refCanon_snoc, ← canon_eq, put_filter hq x (canon_of l').strict, List.filter_append]
    by_cases hx : q x = true
    · rw [if_pos hx, ← ih', List.filter_cons_of_pos hx, List.filter_nil, canon_eq, refCanon_snoc, ← canon_eq]
    · rw [if_neg hx, ← ih', List.filter_cons_of_neg hx, List.filter_nil, List.append_nil]
theorem run_split (x : PRec) : ∀ {l : List PRec}, Strict l → (∀ y ∈ l, cmpK x y ≤ 0) → l.filter (P x) = l.take (run x l) ∧ ∀ z ∈ l.drop (run x l), cmpK x z < 0
  | [], _, _ => ⟨rfl, by simp⟩
  | y :: l, hs, hk => by
    have hs' := List.pairwise_cons.1 hs
    have ih := run_split x hs'.2 (fun z hz => hk z (List.mem_cons_of_mem _ hz))
    by_cases hp : P x y = true
    · have hr : run x (y :: l) = run x l + 1 := by unfold run; rw [List.takeWhile_cons_of_pos hp]; rfl
      rw [hr, List.filter_cons_of_pos hp, List.take_succ_cons, List.drop_succ_cons, ih.1]
      exact ⟨rfl, ih.2⟩
    · have hr : run x (y :: l) = 0 := by unfold run; rw [List.takeWhile_cons_of_neg hp]; rfl
      have hlt : ∀ z ∈ y :: l, cmpK x z < 0 := by
        have h0 : cmpK x y < 0 := by
          have := hk y List.mem_cons_self
          have hne : cmpK x y ≠ 0 := fun e => hp (cmpK_zero.1 e)
          omega
        intro z hz
        rcases List.mem_cons.1 hz with rfl | hz
        · exact h0
        · exact cmpK_cm.lt_le h0 (cmp_le_key (by have := hs'.1 z hz; omega))
      rw [hr]
      refine ⟨?_, by simpa using hlt⟩
      rw [List.take_zero, List.filter_eq_nil_iff]
      intro z hz hpz
      have := hlt z hz
      have := cmpK_zero.2 hpz
      omega
theorem run_all {x : PRec} : ∀ {g : List PRec}, (∀ z ∈ g, P x z = true) → run x g = g.length
  | [], _ => rfl
  | z :: g, h => by
    have ih := run_all (x := x) (g := g) (fun y hy => h y (List.mem_cons_of_mem _ hy))
    unfold run at ih ⊢
    rw [List.takeWhile_cons_of_pos (h z List.mem_cons_self), List.length_cons, List.length_cons, ih]
theorem grp_law : ∀ (f : Nat) (L pre : List PRec), Strict (pre ++ L) → (∀ a ∈ pre, ∀ b ∈ L, cmpK a b < 0) → ∀ g ∈ grpF f L, ∃ x xs, g = x :: xs ∧ (pre ++ L).filter (P x) = g ∧ run x g = g.length ∧ x ∈ L
  | 0, _, _, _, _, g, hg => by simp [grpF] at hg
  | f + 1, [], _, _, _, g, hg => by simp [grpF] at hg
  | f + 1, x :: l, pre, hs, hp, g, hg => by
    have hsl : Strict (x :: l) := (List.pairwise_append.1 hs).2.1
    have hk : ∀ y ∈ x :: l, cmpK x y ≤ 0 := fun y hy => by
      rcases List.mem_cons.1 hy with rfl | hy
      · have := cmpK_cm.refl y; omega
      · exact cmp_le_key (by have := (List.pairwise_cons.1 hsl).1 y hy; omega)
    obtain ⟨h1, h2⟩ := run_split x hsl hk
    obtain ⟨m, hm⟩ : ∃ m, run x (x :: l) = m := ⟨_, rfl⟩
    have hmp : 0 < m := by rw [← hm]; exact run_pos x l
    rw [hm] at h1 h2
    have hg' : g = (x :: l).take m ∨ g ∈ grpF f ((x :: l).drop m) := by
      have : grpF (f + 1) (x :: l) = (x :: l).take m :: grpF f ((x :: l).drop m) := by rw [← hm]; rfl
      rw [this] at hg; exact List.mem_cons.1 hg
    rcases hg' with rfl | hg'
    · obtain ⟨k, rfl⟩ : ∃ k, m = k + 1 := ⟨m - 1, by omega⟩
      refine ⟨x, l.take k, by rw [List.take_succ_cons], ?_, ?_, List.mem_cons_self⟩
      · rw [List.filter_append, h1, (List.filter_eq_nil_iff).2, List.nil_append]
        intro a ha hpa
        have h3 := hp a ha x List.mem_cons_self
        have h4 := cmpK_zero.2 hpa
        have h5 := cmpK_cm.anti x a
        omega
      · refine run_all fun z hz => ?_
        rw [← h1] at hz
        exact (List.mem_filter.1 hz).2
    · have hpl : pre ++ x :: l = (pre ++ (x :: l).take m) ++ (x :: l).drop m := by rw [List.append_assoc, List.take_append_drop]
      obtain ⟨y, ys, e1, e2, e3, e4⟩ := grp_law f ((x :: l).drop m) (pre ++ (x :: l).take m) (by rw [← hpl]; exact hs) (fun a ha b hb => by
        rcases List.mem_append.1 ha with ha | ha
        · exact hp a ha b (List.mem_of_mem_drop hb)
        · have h3 := h2 b hb
          rw [← h1] at ha
          have h4 := cmpK_zero.2 (List.mem_filter.1 ha).2
          have h5 := (cmpK_cm.left (a := x) (b := a) h4 b)
          have h6 := (cmpK_cm.left (a := x) (b := a) h4 b).1 (by omega)
          have h7 : cmpK a b ≠ 0 := fun e => by
            have h8 := cmpK_cm.zero h4 e
            omega
          omega) g hg'
      exact ⟨y, ys, e1, by rw [hpl]; exact e2, e3, List.mem_of_mem_drop e4⟩
theorem compactUpTo_mem {α : Type} [Inhabited α] [DecidableEq α] (d : Array α) : ∀ (m j : Nat), j < m → d[j]! ∈ Lib.compactUpTo d m
  | 0, _, h => by omega
  | m + 1, j, h => by
    rw [Lib.compactUpTo_succ]
    by_cases hj : j < m
    · exact List.mem_append_left _ (compactUpTo_mem d m j hj)
    · obtain rfl : j = m := by omega
      by_cases hk : Lib.keeps d j = true
      · rw [if_pos hk]; simp
      · have h0 : ¬ (j = 0 ∨ d[j]! ≠ d[j - 1]!) := by simpa [Lib.keeps] using hk
        have h1 : j ≠ 0 := fun e => h0 (.inl e)
        have h2 : d[j]! = d[j - 1]! := Classical.byContradiction fun e => h0 (.inr e)
        rw [h2]
        exact List.mem_append_left _ (compactUpTo_mem d j (j - 1) (by omega))
theorem compact_mem {zs : List Int} {z : Int} (h : z ∈ zs) : z ∈ Lib.compact zs := by
  obtain ⟨j, hj, rfl⟩ := List.mem_iff_getElem.1 h
  have := compactUpTo_mem zs.toArray zs.length j hj
  rw [getElem!_pos zs.toArray j (by simpa using hj)] at this
  simpa [Lib.compact] using this
/-- each set is what is found by its name and type, and its type is one of its name's -/
theorem grp_found {l : List PRec} {g : List PRec} (h : g ∈ grpF (canon l).length (canon l)) : ∃ x xs, g = x :: xs ∧ mine l x.owner x.type = g ∧ run x g = g.length ∧ x.type ∈ types l x.owner := by
  obtain ⟨x, xs, rfl, h2, h3, h4⟩ := grp_law _ (canon l) [] (canon_of l).strict (by simp) g h
  refine ⟨x, xs, rfl, ?_, h3, ?_⟩
  · unfold mine
    rw [canon_filter (Q_inv _ _)]
    exact h2
  · obtain ⟨y, hy, e, _⟩ := (canon_of l).some x h4
    unfold types
    refine compact_mem (List.mem_mergeSort.2 (List.mem_map.2 ⟨y, List.mem_filter.2 ⟨hy, ?_⟩, (cmp_type e).symm⟩))
    unfold Nm.same
    rw [cmp_owner e]; simp
theorem sameDats_refl : ∀ l : List PRec, sameDats l l = true
  | [] => rfl
  | x :: l => by rw [sameDats, sameDats_refl l, cmpD_cm.refl]; rfl
end Rs
theorem grpE_flat {w : World} : ∀ (f : Nat) (l : List (El w)), l.length ≤ f → (grpE f l).flatten = l
  | 0, l, h => by
    have : l = [] := List.length_eq_zero_iff.1 (by omega)
    subst this; rfl
  | f + 1, [], _ => rfl
  | f + 1, x :: l, h => by
    show (_ :: grpE f _).flatten = _
    have hp := run_posE x l
    rw [List.flatten_cons, grpE_flat f _ (by rw [List.length_drop, List.length_cons]; simp only [List.length_cons] at h; omega), List.take_append_drop]
theorem grp_flat {w : World} (l : List (El w)) : (grp l).flatten = l := grpE_flat _ _ (Nat.le_refl _)
end Go.Proofs.Ytneghhbclefmoaa
end
