/- CheckGrows: the walk. -/
import Derived.Test.YtneghhbclefmoaaGreatKCkK
import Derived.Test.YtneghhbclefmoaaGreatKReP
import Derived.Test.YtneghhbclefmoaaGreatKReg
namespace Go.Proofs.YtneghhbclefmoaaGreat
open Go.RowKit Go.Shelf Go.Sort
set_option maxRecDepth 100000
theorem recs_one_blk {W : World} {b : Nat} (x : RP) (h : Blk b x.1.toArray 90 W) (hr : RecRd x.1 x.2 W) : RecsRd (.slice (some ⟨b, 0, none⟩) 1 1) [x] W := by
 refine ⟨fun y hy => ?_, some ⟨b, 0, none⟩, 1, rfl, Nat.le_refl _, by unfold maxLen; omega, (fun h => by cases h), fun j hj => ⟨_, rfl, ?_⟩⟩
 ·rw [List.mem_singleton] at hy; subst hy; exact hr
 ·have hadd : (⟨b, 0, none⟩ : Addr).add j = ⟨b, j, none⟩ := by unfold Addr.add; split <;> simp_all
  have e : encP [x] = x.1 := by simp [encP]
  rw [hadd, h.cell j, <- List.getElem?_eq_getElem hj, e]
  simp
theorem row_emptyRG (R : Nat -> Prop) (w : World) (h : R w.heap.size) : Row R 90 7 (.slice (some ⟨w.heap.size, 0, none⟩) 0 0) 0 [] (w.alloc (.cells #[] 90)) :=
 ⟨World.ownsRow_lit w #[] 0 (Nat.zero_le _) (by unfold maxLen; omega) rfl, fun g hg => by cases hg; exact h⟩
def GrB (wA : World) (R : List PFl) (v : Value) (W : World) : Prop := ∃ (U : World) (fb : List (ElF U)), GRd 3 v (fb.map encF) W /\ Ck.Of (plF fb) R /\ fb.length <= 1000 /\ Below U.heap.size U W /\ Below wA.heap.size wA W
set_option maxHeartbeats 8000000 in
theorem walkCheckGrows (v0 : Value) (l0 : List (List UInt8)) (v1 : Value) (l1 : List RP) (v2 : Value) (l2 : List (List UInt8)) (w : World) (h0 : Rd v0 l0 w) (h1 : RecsRd v1 l1 w /\ ∀ x ∈ l1, RN x.2) (h2 : Rd v2 l2 w) :
  Calls Tryz.prog 7 #[v0, v1, v2] w (TrZ w) := by
 obtain ⟨h1, hrn⟩ := h1
 obtain ⟨oo, co, rfl, _, _⟩ := h0.form
 obtain ⟨on, cn, rfl, _, _⟩ := h2.form
 obtain ⟨ov, cv, rfl⟩ : ∃ o cap, v1 = .slice o l1.length cap := by obtain ⟨_, o, cap, h, _⟩ := h1; exact ⟨o, cap, h⟩
 have HO := Lib.hid h0
 have HV := Lib.hid h1
 have HN := Lib.hid h2
 have HRN := Lib.hid hrn
 clear h0 h1 h2 hrn
 refine (callsIn_wide (n := 0)).1 ?_
 refine callsIn_of_wp Tryz.func7 rfl trivial ?_ rfl
 simp only [Tryz.ntmps7, List.size_toArray, List.length_cons, List.length_nil, Nat.reduceAdd, Nat.reduceSub, Array.replicate_succ, Array.replicate_zero, List.push_toArray, List.append_toArray, List.nil_append, List.cons_append]
 gi_wp2_with fail
 refine (callsIn_wide.2 (known13_any _)).mono ?_
 rintro e w1 ⟨rfl, b1⟩
 obtain ⟨Wa, hWa⟩ : ∃ W, w1.alloc (.cells #[S [111, 110, 101, 32, 109, 111, 114, 101]] 9) = W := ⟨_, rfl⟩
 have ka : Blk w1.heap.size #[S [111, 110, 101, 32, 109, 111, 114, 101]] 9 Wa := by rw [<- hWa]; exact Blk.new w1 _ _
 have sa : Wa.heap.size = w1.heap.size + 1 := by rw [<- hWa, World.size_alloc]
 obtain ⟨Wx, hWx⟩ : ∃ W, Wa.alloc (.cells #[.slice on l2.length cn, .int .u32 5, .int .i64 16, .slice none 0 0, .slice none 0 0, .slice (some ⟨w1.heap.size, 0, none⟩) 1 1, .slice none 0 0] 90) = W := ⟨_, rfl⟩
 have kx : Blk (w1.heap.size + 1) #[.slice on l2.length cn, .int .u32 5, .int .i64 16, .slice none 0 0, .slice none 0 0, .slice (some ⟨w1.heap.size, 0, none⟩) 1 1, .slice none 0 0] 90 Wx := by have := Blk.new Wa #[.slice on l2.length cn, .int .u32 5, .int .i64 16, .slice none 0 0, .slice none 0 0, .slice (some ⟨w1.heap.size, 0, none⟩) 1 1, .slice none 0 0] 90; rw [hWx, sa] at this; exact this
 have bx : Below w1.heap.size w1 Wx := by rw [<- hWx, <- hWa]; exact ((Below.refl _ _).alloc (Nat.le_refl _) _).alloc (by simp) _
 have bax : Below Wa.heap.size Wa Wx := by rw [<- hWx]; exact (Below.refl _ _).alloc (Nat.le_refl _) _
 have hxr : RecRd [.slice on l2.length cn, .int .u32 5, .int .i64 16, .slice none 0 0, .slice none 0 0, .slice (some ⟨w1.heap.size, 0, none⟩) 1 1, .slice none 0 0] ⟨l2, 5, 16, [], [], [[111, 110, 101, 32, 109, 111, 114, 101]], []⟩ Wx := by
  have ht := rd_blk [[111, 110, 101, 32, 109, 111, 114, 101]] (ka.below bax) (by decide)
  exact ⟨_, _, rfl, HN.out.below (below5 b1 bx), _, _, _, _, rfl, ⟨[], rfl, Sl.nil _, fun i h => by simp at h⟩, Sl.nil _, ht, Sl.nil _⟩
 have HCX : Hid (∀ W', Below Wx.heap.size Wx W' -> (Cs [(⟨w1.heap.size + 1, 0, none⟩, Value.slice on l2.length cn), (⟨w1.heap.size + 1, 1, none⟩, .int .u32 5), (⟨w1.heap.size + 1, 2, none⟩, .int .i64 16), (⟨w1.heap.size + 1, 3, none⟩, .slice none 0 0), (⟨w1.heap.size + 1, 4, none⟩, .slice none 0 0), (⟨w1.heap.size + 1, 5, none⟩, .slice (some ⟨w1.heap.size, 0, none⟩) 1 1), (⟨w1.heap.size + 1, 6, none⟩, .slice none 0 0)]) W') := fun W' hW => ⟨(kx.below hW).cell 0, (kx.below hW).cell 1, (kx.below hW).cell 2, (kx.below hW).cell 3, (kx.below hW).cell 4, (kx.below hW).cell 5, (kx.below hW).cell 6, trivial⟩
 have HXR := Lib.hid hxr
 have HG := Lib.hid (good12_any _ _ l0 l1 Wx (HO.out.below (below5 b1 bx)) (HV.out.kept (below5 b1 bx)))
 have HBX := Lib.hid (below5 b1 bx)
 have HWA0 := Lib.hid hWa
 have HWX0 := Lib.hid hWx
 clear b1 bx bax ka kx hxr hWa hWx sa
 gi_wp2_with fail
 rw [HWA0.out, HWX0.out]
 refine (callsIn_wide.2 HG.out).mono ?_
 rintro e w2 ⟨b, rfl, hq, b2⟩
 have HB2 := Lib.hid b2
 have HQ := Lib.hid hq
 clear HG b2 hq HWA0 HWX0
 cases b with
 | false =>
  gi_wp2_with fail
  all_goals try (first | (rename_i h _; simp [undef] at h; done) | (rename_i h _ _ _; simp [undef] at h; done) | (rename_i h _ _ _ _; simp [undef] at h; done) | (rename_i h _ _; simp [undef] at h; done))
  go_ret
  exact ⟨rfl, below5 HBX.out HB2.out⟩
 | true =>
 obtain ⟨hgo, hrf⟩ := HQ.out rfl
 obtain ⟨nbo, lo140, _, _⟩ := Nm.good2_parts hgo
 have HRF := Lib.hid hrf
 have NBO := Lib.hid nbo
 obtain ⟨x0, x1, x2, x3, x4, x5, x6, _⟩ := HCX.out w2 HB2.out
 obtain ⟨W4, hW4⟩ : ∃ W, w2.alloc (.cells #[.slice on l2.length cn, .int .u32 5, .int .i64 16, .slice none 0 0, .slice none 0 0, .slice (some ⟨w1.heap.size, 0, none⟩) 1 1, .slice none 0 0] 90) = W := ⟨_, rfl⟩
 have k4 : Blk w2.heap.size #[.slice on l2.length cn, .int .u32 5, .int .i64 16, .slice none 0 0, .slice none 0 0, .slice (some ⟨w1.heap.size, 0, none⟩) 1 1, .slice none 0 0] 90 W4 := by rw [<- hW4]; exact Blk.new w2 _ _
 have b4 : Below w2.heap.size w2 W4 := by rw [<- hW4]; exact (Below.refl _ _).alloc (Nat.le_refl _) _
 have hrx : RecsRd (.slice (some ⟨w2.heap.size, 0, none⟩) 1 1) [([.slice on l2.length cn, .int .u32 5, .int .i64 16, .slice none 0 0, .slice none 0 0, .slice (some ⟨w1.heap.size, 0, none⟩) 1 1, .slice none 0 0], ⟨l2, 5, 16, [], [], [[111, 110, 101, 32, 109, 111, 114, 101]], []⟩)] W4 := recs_one_blk ([.slice on l2.length cn, .int .u32 5, .int .i64 16, .slice none 0 0, .slice none 0 0, .slice (some ⟨w1.heap.size, 0, none⟩) 1 1, .slice none 0 0], ⟨l2, 5, 16, [], [], [[111, 110, 101, 32, 109, 111, 114, 101]], []⟩) k4 (HXR.out.below (below5 HB2.out b4))
 have HG5 := Lib.hid (good5_any (.slice (some ⟨w2.heap.size, 0, none⟩) 1 1) [([.slice on l2.length cn, .int .u32 5, .int .i64 16, .slice none 0 0, .slice none 0 0, .slice (some ⟨w1.heap.size, 0, none⟩) 1 1, .slice none 0 0], ⟨l2, 5, 16, [], [], [[111, 110, 101, 32, 109, 111, 114, 101]], []⟩)] W4 hrx)
 have HRX := Lib.hid hrx
 have HB4 := Lib.hid (below5 HB2.out b4)
 clear hgo hrf nbo HQ k4 b4 hrx
 gi_wp2_with fail
 refine (callsIn_wide.2 HG5.out).mono ?_
 rintro e w3 ⟨b, rfl, hq, b3⟩
 have HB43 := Lib.hid b3
 have HB3 := Lib.hid (below5 HB4.out b3)
 have HQ := Lib.hid hq
 clear HG5 b3 hq hW4 x0 x1 x2 x3 x4 x5 x6
 cases b with
 | false =>
  gi_wp2_with fail
  all_goals try (first | (rename_i h _; simp [undef] at h; done) | (rename_i h _ _ _; simp [undef] at h; done) | (rename_i h _ _ _ _; simp [undef] at h; done) | (rename_i h _ _; simp [undef] at h; done))
  go_ret
  exact ⟨rfl, below5 HBX.out HB3.out⟩
 | true =>
 have hrfx := HQ.out rfl
 obtain ⟨lx, hLx, _, hLxl⟩ := els_of (HRX.out.kept HB43.out) hrfx (fun y hy => by rw [List.mem_singleton] at hy; subst hy; exact ⟨by show (5 : Nat) < 4294967296; decide, fun n hn => by cases hn⟩)
 obtain ⟨xe, rfl⟩ : ∃ x, lx = [x] := by
  match lx, hLxl with
  | [x], _ => exact ⟨x, rfl⟩
 have hxe : xe.1 = ([.slice on l2.length cn, .int .u32 5, .int .i64 16, .slice none 0 0, .slice none 0 0, .slice (some ⟨w1.heap.size, 0, none⟩) 1 1, .slice none 0 0], ⟨l2, 5, 16, [], [], [[111, 110, 101, 32, 109, 111, 114, 101]], []⟩) := by simpa using hLx
 have hrk := HV.out.kept (below5 HBX.out HB3.out)
 obtain ⟨l, hL, hL60, hLl⟩ := els_of hrk HRF.out HRN.out
 have hrec : RecsRd (.slice ov l1.length cv) (l.map (·.1)) w3 := by rw [hL]; exact hrk
 have HNW := Lib.hid (zNew_any oo l0.length co _ l hrec (by omega))
 have HRC := Lib.hid hrec
 have HXE := Lib.hid hxe
 have HB3w := Lib.hid (below5 HBX.out HB3.out)
 clear hrfx HQ hLx hLxl hxe hrk hrec hL HRF HRX HB43 HB4
 gi_wp2_with fail
 refine (callsIn_wide.2 HNW.out).mono ?_
 rintro e w4 ⟨v6, l6, rfl, r6, p6, n6, b4⟩
 obtain ⟨o6, c6, rfl⟩ : ∃ o cap, v6 = .slice o l6.length cap := by obtain ⟨_, o, cap, h, _⟩ := r6; exact ⟨o, cap, by rw [h, List.length_map]⟩
 have HCZ := Lib.hid (ckZone_any (w := w4) (.slice oo l0.length co) (.slice o6 l6.length c6) (l6.map (El.up b4)) l0 (by rw [up_fst]; exact r6) (by rw [List.length_map]; omega) (HO.out.below (below5 HB3w.out b4)) NBO.out)
 rw [up_pl, p6] at HCZ
 have HB4 := Lib.hid b4
 clear HNW r6 p6 b4
 gi_wp2_with fail
 refine (callsIn_wide.2 HCZ.out).mono ?_
 rintro e wA ⟨va, fa, rfl, ga, hofa, nfa, b5⟩
 obtain ⟨oa, ca, rfl, ha1, ha2⟩ := ga.form
 rw [List.length_map] at ga ha1 ⊢
 have HFA := Lib.hid ga
 have HOFA := Lib.hid hofa
 have HB5 := Lib.hid b5
 have HB3A := Lib.hid (below5 HB4.out b5)
 have HBXA := Lib.hid (below5 HB3.out (below5 HB4.out b5))
 obtain ⟨lz, hlz⟩ : ∃ lz, l.map (El.up HB3A.out) = lz := ⟨_, rfl⟩
 obtain ⟨xz, hxz⟩ : ∃ xz, El.up HB3A.out xe = xz := ⟨_, rfl⟩
 have hlzl : lz.length = l1.length := by rw [<- hlz, List.length_map]; exact hLl
 have HLZ : Hid (lz.length = l1.length) := hlzl
 have hl60 : l1.length <= 60 := by omega
 have HT : Hid (∀ W', Below wA.heap.size wA W' -> GRd 7 (.slice ov l1.length cv) (lz.map encE) W') := fun W' hW => by
  refine RecsRd.grd ?_
  rw [<- hlz, up_fst]
  exact HRC.out.kept (below5 HB3A.out hW)
 have HXZ : Hid (encE xz = [.slice on l2.length cn, .int .u32 5, .int .i64 16, .slice none 0 0, .slice none 0 0, .slice (some ⟨w1.heap.size, 0, none⟩) 1 1, .slice none 0 0]) := by
  show encE xz = _
  rw [<- hxz]
  show xe.1.1 = _
  rw [HXE.out]
 have HXP : Hid (xz.1.2 = ⟨l2, 5, 16, [], [], [[111, 110, 101, 32, 109, 111, 114, 101]], []⟩) := by
  show xz.1.2 = _
  rw [<- hxz]
  show xe.1.2 = _
  rw [HXE.out]
 have HPL : Hid (plE lz = plE l) := by show _ = _; rw [<- hlz, up_pl]
 have HCA : Hid (∀ W', Below wA.heap.size wA W' -> (Cs [(⟨w1.heap.size + 1, 0, none⟩, Value.slice on l2.length cn), (⟨w1.heap.size + 1, 1, none⟩, .int .u32 5), (⟨w1.heap.size + 1, 2, none⟩, .int .i64 16), (⟨w1.heap.size + 1, 3, none⟩, .slice none 0 0), (⟨w1.heap.size + 1, 4, none⟩, .slice none 0 0), (⟨w1.heap.size + 1, 5, none⟩, .slice (some ⟨w1.heap.size, 0, none⟩) 1 1), (⟨w1.heap.size + 1, 6, none⟩, .slice none 0 0)]) W') := fun W' hW => HCX.out W' (below5 HBXA.out hW)
 have HOW : Hid (∀ W', Below wA.heap.size wA W' -> Rd (.slice oo l0.length co) l0 W') := fun W' hW => HO.out.below (below5 HB3w.out (below5 HB3A.out hW))
 have HWA : Hid (Below w.heap.size w wA) := below5 HB3w.out HB3A.out
 have HBwA : Hid (Below wA.heap.size wA wA) := Below.refl _ _
 have HFIN : Hid (∀ (u : World) (v : Value), Below wA.heap.size wA u -> Row (fun g => wA.heap.size <= g) 90 7 v ((lz.map encE).length + 1) (lz.map encE ++ [([.slice on l2.length cn, .int .u32 5, .int .i64 16, .slice none 0 0, .slice none 0 0, .slice (some ⟨w1.heap.size, 0, none⟩) 1 1, .slice none 0 0] : List Value)]).flatten u -> RecsRd v (((lz ++ [xz]).map (El.up (w := wA) (w' := wA) (Below.refl _ _))).map (·.1)) u) := fun u v hu hr => by
  rw [up_fst]
  refine Row.recs (w := wA) (R := (fun g => wA.heap.size <= g)) (l := lz ++ [xz]) ?_ hu
  rw [List.length_append, List.flatMap_def, List.map_append, List.map_cons, List.map_nil, HXZ.out]
  rw [List.length_map] at hr
  exact hr
 clear ga hofa b5 hlz hxz hlzl HCZ
 gi_upto_region 7 with fail
 gi_cut [9] from 75 (fun v9 W => GrB wA (Ck.raw l0 (Rc.canon (plE l ++ [⟨l2, 5, 16, [], [], [[111, 110, 101, 32, 109, 111, 114, 101]], []⟩]))) v9 W)
 case first =>
  obtain ⟨x0, x1, x2, x3, x4, x5, x6, _⟩ := HCA.out wA (Below.refl _ _)
  gi_wp2_with fail
  refine drawnH (List.range 10) (Cs [(⟨w1.heap.size + 1, 0, none⟩, Value.slice on l2.length cn), (⟨w1.heap.size + 1, 1, none⟩, .int .u32 5), (⟨w1.heap.size + 1, 2, none⟩, .int .i64 16), (⟨w1.heap.size + 1, 3, none⟩, .slice none 0 0), (⟨w1.heap.size + 1, 4, none⟩, .slice none 0 0), (⟨w1.heap.size + 1, 5, none⟩, .slice (some ⟨w1.heap.size, 0, none⟩) 1 1), (⟨w1.heap.size + 1, 6, none⟩, .slice none 0 0)]) 10 rfl (by kernel_rfl) ?_
  intro ua hwa
  have HBua : Hid (Below wA.heap.size wA ua) := by subst hwa; exact HBwA.out.drew
  have hS := HCA.out ua HBua.out
  clear hwa
  refine tH 0 ?qrav0 hS (fun w1 ⟨x0, x1, x2, x3, x4, x5, x6, _⟩ => ?qray0) ?_
  case qray0 => (go_simp; try first | rfl | (rw [if_pos (by omega)]) | (rw [if_neg (by omega)]) | (rw [if_neg (by simp; omega)]) | (split <;> first | (exfalso; omega) | rfl))
  refine tH 2 ?qrav2 hS (fun w1 ⟨x0, x1, x2, x3, x4, x5, x6, _⟩ => ?qray2) ?_
  case qray2 => (go_simp; try first | rfl | (rw [if_pos (by omega)]) | (rw [if_neg (by omega)]) | (rw [if_neg (by simp; omega)]) | (split <;> first | (exfalso; omega) | rfl))
  refine tH 4 ?qrav4 hS (fun w1 ⟨x0, x1, x2, x3, x4, x5, x6, _⟩ => ?qray4) ?_
  case qray4 => (go_simp; try first | rfl | (rw [if_pos (by omega)]) | (rw [if_neg (by omega)]) | (rw [if_neg (by simp; omega)]) | (split <;> first | (exfalso; omega) | rfl))
  simp only [Act.put, List.setIfInBounds_toArray, List.set_cons_succ, List.set_cons_zero]
  refine twoH2 1 5 (by rfl) (by rfl) (by kernel_rfl) (fun K hK => ?_) (fun K hK => ?_)
  ·gi_wp2_with fail
   obtain ⟨u1, hw⟩ : ∃ W, ua.alloc (.cells #[] 90) = W := ⟨_, rfl⟩
   obtain ⟨bx, hbx⟩ : ∃ b, ua.heap.size = b := ⟨_, rfl⟩
   have hrow := row_emptyRG (fun g => wA.heap.size <= g) ua HBua.out.size
   have hbd : Below wA.heap.size wA u1 := by rw [<- hw]; exact HBua.out.alloc HBua.out.size _
   rw [hw, hbx] at hrow
   rw [hw, hbx]
   have HROW := Lib.hid hrow
   have HBu1 := Lib.hid hbd
   refine hK _ _ (fun _ => HCA.out u1 hbd) ?_
   clear hK K hw hbx hrow hbd
   refine twoH2 3 5 (by rfl) (by rfl) (by kernel_rfl) (fun K hK => ?_) (fun K hK => ?_)
   ·gi_wp2_with (gi_at_builtin; refine append_g (fun g => wA.heap.size <= g) 90 _ 7 136 info_rec rfl (by decide) rfl _ _ _ Tryz.underlying24 rfl _ 0 [] (by rfl) HROW.out _ (lz.map encE) (by rfl) (HT.out u1 HBu1.out) (by have := HLZ.out; rw [List.length_map]; omega) (by omega) HBu1.out.size ?_; intro v10 u2 hrow10 hgr10)
    have HBu2 := Lib.hid (HBu1.out.grown hgr10 HBu1.out.size (fun g hg => HROW.out.2 g hg))
    have hrow11 : Row (fun g => wA.heap.size <= g) 90 7 v10 (lz.map encE).length (lz.map encE).flatten u2 := by rw [Nat.zero_add, List.nil_append] at hrow10; exact hrow10
    clear HROW
    have HROW := Lib.hid hrow11
    refine hK _ _ (fun _ => HCA.out u2 HBu2.out) ?_
    clear hK K hrow10 hrow11 hgr10
    refine oneH 5 (by rfl) (by kernel_rfl) (fun K hK => ?_)
    gi_wp2_with fail
    obtain ⟨u3, hw⟩ : ∃ W, u2.alloc (.cells #[.slice on l2.length cn, .int .u32 5, .int .i64 16, .slice none 0 0, .slice none 0 0, .slice (some ⟨w1.heap.size, 0, none⟩) 1 1, .slice none 0 0] 90) = W := ⟨_, rfl⟩
    obtain ⟨b2, hb2⟩ : ∃ b, u2.heap.size = b := ⟨_, rfl⟩
    have hgx : GRd 7 (.slice (some ⟨u2.heap.size, 0, none⟩) 1 1) [[.slice on l2.length cn, .int .u32 5, .int .i64 16, .slice none 0 0, .slice none 0 0, .slice (some ⟨w1.heap.size, 0, none⟩) 1 1, .slice none 0 0]] (u2.alloc (.cells #[.slice on l2.length cn, .int .u32 5, .int .i64 16, .slice none 0 0, .slice none 0 0, .slice (some ⟨w1.heap.size, 0, none⟩) 1 1, .slice none 0 0] 90)) := GRd.new [.slice on l2.length cn, .int .u32 5, .int .i64 16, .slice none 0 0, .slice none 0 0, .slice (some ⟨w1.heap.size, 0, none⟩) 1 1, .slice none 0 0] rfl (by simp [Value.oneCell']) u2 90
    have hbd : Below wA.heap.size wA u3 := by rw [<- hw]; exact HBu2.out.alloc HBu2.out.size _
    have hlt2 : b2 < u3.heap.size := by rw [<- hw, <- hb2, World.size_alloc]; omega
    have HNE : Hid (∀ g, Value.ownBlock v10 = some g -> g ≠ b2) := fun g hg => by have h := HROW.out.ltH hg; omega
    have hrow' := HROW.out.alloc (.cells #[.slice on l2.length cn, .int .u32 5, .int .i64 16, .slice none 0 0, .slice none 0 0, .slice (some ⟨w1.heap.size, 0, none⟩) 1 1, .slice none 0 0] 90)
    rw [hw] at hrow'
    clear HROW
    have HROW := Lib.hid hrow'
    clear hrow'
    rw [hw, hb2] at hgx
    rw [hw, hb2]
    have HGX := Lib.hid hgx
    have HLT := Lib.hid hlt2
    have HBu3 := Lib.hid hbd
    refine hK _ _ (fun _ => HCA.out u3 hbd) ?_
    clear hK K hw hb2 hgx hbd hlt2
    refine oneH 6 (by rfl) (by kernel_rfl) (fun K hK => ?_)
    gi_wp2_with (gi_at_builtin; refine append_g (fun g => wA.heap.size <= g) 90 _ 7 136 info_rec rfl (by decide) rfl _ _ _ Tryz.underlying24 rfl _ (lz.map encE).length (lz.map encE) (by rfl) HROW.out _ [[.slice on l2.length cn, .int .u32 5, .int .i64 16, .slice none 0 0, .slice none 0 0, .slice (some ⟨w1.heap.size, 0, none⟩) 1 1, .slice none 0 0]] (by rfl) HGX.out (by have := HLZ.out; rw [List.length_map]; simp; omega) (by omega) HBu3.out.size ?_; intro v12 u4 hrow12 hgr12)
    have HBu4 := Lib.hid (HBu3.out.grown hgr12 HBu3.out.size (fun g hg => HROW.out.2 g hg))
    have hrr := HFIN.out u4 v12 HBu4.out hrow12
    rw [up_fst] at hrr
    obtain ⟨o12, c12, rfl⟩ : ∃ o c, v12 = .slice o (l1.length + 1) c := by obtain ⟨_, o, c, h, _⟩ := hrr; exact ⟨o, c, by rw [h, List.length_map, List.length_append, HLZ.out]; rfl⟩
    have HNW2 := Lib.hid (zNew_any (w := u4) oo l0.length co (.slice o12 (l1.length + 1) c12) ((lz ++ [xz]).map (El.up HBu4.out)) (by rw [up_fst]; exact hrr) (by rw [List.length_map, List.length_append, HLZ.out]; simp; omega))
    refine hK _ _ (fun _ => HCA.out u4 HBu4.out) ?_
    clear hK K hrow12 hgr12 HROW HGX hrr
    refine oneH 7 (by rfl) (by kernel_rfl) (fun K hK => ?_)
    gi_wp2_with (gi_at_call 12; refine (callsIn_wide.2 HNW2.out).mono ?_; rintro e u5 ⟨v7, l7, rfl, r7, p7, n7, b7⟩)
    obtain ⟨o7, c7, rfl⟩ : ∃ o cap, v7 = .slice o l7.length cap := by obtain ⟨_, o, cap, h, _⟩ := r7; exact ⟨o, cap, by rw [h, List.length_map]⟩
    have hp7 : plE (l7.map (El.up b7)) = Rc.canon (plE l ++ [⟨l2, 5, 16, [], [], [[111, 110, 101, 32, 109, 111, 114, 101]], []⟩]) := by
     rw [up_pl, p7, up_pl, plE_snoc, HPL.out, HXP.out]
    have HBu5 := Lib.hid (below5 HBu4.out b7)
    have HCZ2 := Lib.hid (ckZone_any (w := u5) (.slice oo l0.length co) (.slice o7 l7.length c7) (l7.map (El.up b7)) l0 (by rw [up_fst]; exact r7) (by rw [List.length_map]; rw [List.length_map, List.length_append, HLZ.out] at n7; simp at n7; omega) (HOW.out u5 HBu5.out) NBO.out)
    rw [hp7] at HCZ2
    refine hK _ _ (fun _ => HCA.out u5 HBu5.out) ?_
    clear hK K HNW2 r7 p7 n7 b7 hp7
    refine oneH 8 (by rfl) (by kernel_rfl) (fun K hK => ?_)
    gi_wp2_with (gi_at_call 41; refine (callsIn_wide.2 HCZ2.out).mono ?_; rintro e u6 ⟨vb, fb, rfl, gb, hofb, nfb, b8⟩)
    have HBu6 := Lib.hid (below5 HBu5.out b8)
    have HRES : Hid (GrB wA (Ck.raw l0 (Rc.canon (plE l ++ [⟨l2, 5, 16, [], [], [[111, 110, 101, 32, 109, 111, 114, 101]], []⟩]))) vb u6) := ⟨u5, fb, gb, hofb, nfb, b8, HBu6.out⟩
    refine hK _ _ (fun _ => HCA.out u6 HBu6.out) ?_
    clear hK K HCZ2 gb hofb nfb b8
    refine oneH 9 (by rfl) (by kernel_rfl) (fun K hK => ?_)
    gi_wp2_with fail
    refine hK _ _ (fun _ => HCA.out u6 HBu6.out) ?_
    clear hK K
    refine doneH (by kernel_rfl) ?_
    gi_wp2_with fail
    gi_meet
    case rel => exact HRES.out
   ·gi_wp2_with fail
    obtain ⟨u7, hw⟩ : ∃ W, u1.alloc (.cells #[.slice on l2.length cn, .int .u32 5, .int .i64 16, .slice none 0 0, .slice none 0 0, .slice (some ⟨w1.heap.size, 0, none⟩) 1 1, .slice none 0 0] 90) = W := ⟨_, rfl⟩
    obtain ⟨b2, hb2⟩ : ∃ b, u1.heap.size = b := ⟨_, rfl⟩
    have hgx : GRd 7 (.slice (some ⟨u1.heap.size, 0, none⟩) 1 1) [[.slice on l2.length cn, .int .u32 5, .int .i64 16, .slice none 0 0, .slice none 0 0, .slice (some ⟨w1.heap.size, 0, none⟩) 1 1, .slice none 0 0]] (u1.alloc (.cells #[.slice on l2.length cn, .int .u32 5, .int .i64 16, .slice none 0 0, .slice none 0 0, .slice (some ⟨w1.heap.size, 0, none⟩) 1 1, .slice none 0 0] 90)) := GRd.new [.slice on l2.length cn, .int .u32 5, .int .i64 16, .slice none 0 0, .slice none 0 0, .slice (some ⟨w1.heap.size, 0, none⟩) 1 1, .slice none 0 0] rfl (by simp [Value.oneCell']) u1 90
    have hbd : Below wA.heap.size wA u7 := by rw [<- hw]; exact HBu1.out.alloc HBu1.out.size _
    have hlt2 : b2 < u7.heap.size := by rw [<- hw, <- hb2, World.size_alloc]; omega
    have HNE : Hid (∀ g, Value.ownBlock (Value.slice (some ⟨bx, 0, none⟩) 0 0) = some g -> g ≠ b2) := fun g hg => by have h := HROW.out.ltH hg; omega
    have hrow' := HROW.out.alloc (.cells #[.slice on l2.length cn, .int .u32 5, .int .i64 16, .slice none 0 0, .slice none 0 0, .slice (some ⟨w1.heap.size, 0, none⟩) 1 1, .slice none 0 0] 90)
    rw [hw] at hrow'
    clear HROW
    have HROW := Lib.hid hrow'
    clear hrow'
    rw [hw, hb2] at hgx
    rw [hw, hb2]
    have HGX := Lib.hid hgx
    have HLT := Lib.hid hlt2
    have HBu7 := Lib.hid hbd
    refine hK _ _ (fun _ => HCA.out u7 hbd) ?_
    clear hK K hw hb2 hgx hbd hlt2
    refine oneH 3 (by rfl) (by kernel_rfl) (fun K hK => ?_)
    gi_wp2_with (gi_at_builtin; refine append_g (fun g => wA.heap.size <= g) 90 _ 7 136 info_rec rfl (by decide) rfl _ _ _ Tryz.underlying24 rfl _ 0 [] (by rfl) HROW.out _ (lz.map encE) (by rfl) (HT.out u7 HBu7.out) (by have := HLZ.out; rw [List.length_map]; omega) (by omega) HBu7.out.size ?_; intro v10 u8 hrow10 hgr10)
    have HBu8 := Lib.hid (HBu7.out.grown hgr10 HBu7.out.size (fun g hg => HROW.out.2 g hg))
    have hrow11 : Row (fun g => wA.heap.size <= g) 90 7 v10 (lz.map encE).length (lz.map encE).flatten u8 := by rw [Nat.zero_add, List.nil_append] at hrow10; exact hrow10
    have hgx := HGX.out.grown75 hgr10 (fun g hg => HNE.out g hg)
    clear HGX
    have HGX := Lib.hid hgx
    clear hgx HNE
    clear HROW
    have HROW := Lib.hid hrow11
    refine hK _ _ (fun _ => HCA.out u8 HBu8.out) ?_
    clear hK K hrow10 hrow11 hgr10
    refine oneH 6 (by rfl) (by kernel_rfl) (fun K hK => ?_)
    gi_wp2_with (gi_at_builtin; refine append_g (fun g => wA.heap.size <= g) 90 _ 7 136 info_rec rfl (by decide) rfl _ _ _ Tryz.underlying24 rfl _ (lz.map encE).length (lz.map encE) (by rfl) HROW.out _ [[.slice on l2.length cn, .int .u32 5, .int .i64 16, .slice none 0 0, .slice none 0 0, .slice (some ⟨w1.heap.size, 0, none⟩) 1 1, .slice none 0 0]] (by rfl) HGX.out (by have := HLZ.out; rw [List.length_map]; simp; omega) (by omega) HBu8.out.size ?_; intro v12 u9 hrow12 hgr12)
    have HBu9 := Lib.hid (HBu8.out.grown hgr12 HBu8.out.size (fun g hg => HROW.out.2 g hg))
    have hrr := HFIN.out u9 v12 HBu9.out hrow12
    rw [up_fst] at hrr
    obtain ⟨o12, c12, rfl⟩ : ∃ o c, v12 = .slice o (l1.length + 1) c := by obtain ⟨_, o, c, h, _⟩ := hrr; exact ⟨o, c, by rw [h, List.length_map, List.length_append, HLZ.out]; rfl⟩
    have HNW2 := Lib.hid (zNew_any (w := u9) oo l0.length co (.slice o12 (l1.length + 1) c12) ((lz ++ [xz]).map (El.up HBu9.out)) (by rw [up_fst]; exact hrr) (by rw [List.length_map, List.length_append, HLZ.out]; simp; omega))
    refine hK _ _ (fun _ => HCA.out u9 HBu9.out) ?_
    clear hK K hrow12 hgr12 HROW HGX hrr
    refine oneH 7 (by rfl) (by kernel_rfl) (fun K hK => ?_)
    gi_wp2_with (gi_at_call 12; refine (callsIn_wide.2 HNW2.out).mono ?_; rintro e u10 ⟨v7, l7, rfl, r7, p7, n7, b7⟩)
    obtain ⟨o7, c7, rfl⟩ : ∃ o cap, v7 = .slice o l7.length cap := by obtain ⟨_, o, cap, h, _⟩ := r7; exact ⟨o, cap, by rw [h, List.length_map]⟩
    have hp7 : plE (l7.map (El.up b7)) = Rc.canon (plE l ++ [⟨l2, 5, 16, [], [], [[111, 110, 101, 32, 109, 111, 114, 101]], []⟩]) := by
     rw [up_pl, p7, up_pl, plE_snoc, HPL.out, HXP.out]
    have HBu10 := Lib.hid (below5 HBu9.out b7)
    have HCZ2 := Lib.hid (ckZone_any (w := u10) (.slice oo l0.length co) (.slice o7 l7.length c7) (l7.map (El.up b7)) l0 (by rw [up_fst]; exact r7) (by rw [List.length_map]; rw [List.length_map, List.length_append, HLZ.out] at n7; simp at n7; omega) (HOW.out u10 HBu10.out) NBO.out)
    rw [hp7] at HCZ2
    refine hK _ _ (fun _ => HCA.out u10 HBu10.out) ?_
    clear hK K HNW2 r7 p7 n7 b7 hp7
    refine oneH 8 (by rfl) (by kernel_rfl) (fun K hK => ?_)
    gi_wp2_with (gi_at_call 41; refine (callsIn_wide.2 HCZ2.out).mono ?_; rintro e u11 ⟨vb, fb, rfl, gb, hofb, nfb, b8⟩)
    have HBu11 := Lib.hid (below5 HBu10.out b8)
    have HRES : Hid (GrB wA (Ck.raw l0 (Rc.canon (plE l ++ [⟨l2, 5, 16, [], [], [[111, 110, 101, 32, 109, 111, 114, 101]], []⟩]))) vb u11) := ⟨u10, fb, gb, hofb, nfb, b8, HBu11.out⟩
    refine hK _ _ (fun _ => HCA.out u11 HBu11.out) ?_
    clear hK K HCZ2 gb hofb nfb b8
    refine oneH 9 (by rfl) (by kernel_rfl) (fun K hK => ?_)
    gi_wp2_with fail
    refine hK _ _ (fun _ => HCA.out u11 HBu11.out) ?_
    clear hK K
    refine doneH (by kernel_rfl) ?_
    gi_wp2_with fail
    gi_meet
    case rel => exact HRES.out
  ·gi_wp2_with fail
   obtain ⟨u12, hw⟩ : ∃ W, ua.alloc (.cells #[.slice on l2.length cn, .int .u32 5, .int .i64 16, .slice none 0 0, .slice none 0 0, .slice (some ⟨w1.heap.size, 0, none⟩) 1 1, .slice none 0 0] 90) = W := ⟨_, rfl⟩
   obtain ⟨b2, hb2⟩ : ∃ b, ua.heap.size = b := ⟨_, rfl⟩
   have hgx : GRd 7 (.slice (some ⟨ua.heap.size, 0, none⟩) 1 1) [[.slice on l2.length cn, .int .u32 5, .int .i64 16, .slice none 0 0, .slice none 0 0, .slice (some ⟨w1.heap.size, 0, none⟩) 1 1, .slice none 0 0]] (ua.alloc (.cells #[.slice on l2.length cn, .int .u32 5, .int .i64 16, .slice none 0 0, .slice none 0 0, .slice (some ⟨w1.heap.size, 0, none⟩) 1 1, .slice none 0 0] 90)) := GRd.new [.slice on l2.length cn, .int .u32 5, .int .i64 16, .slice none 0 0, .slice none 0 0, .slice (some ⟨w1.heap.size, 0, none⟩) 1 1, .slice none 0 0] rfl (by simp [Value.oneCell']) ua 90
   have hbd : Below wA.heap.size wA u12 := by rw [<- hw]; exact HBua.out.alloc HBua.out.size _
   have hlt2 : b2 < u12.heap.size := by rw [<- hw, <- hb2, World.size_alloc]; omega
   rw [hw, hb2] at hgx
   rw [hw, hb2]
   have HGX := Lib.hid hgx
   have HLT := Lib.hid hlt2
   have HBu12 := Lib.hid hbd
   refine hK _ _ (fun _ => HCA.out u12 hbd) ?_
   clear hK K hw hb2 hgx hbd hlt2
   refine oneH 1 (by rfl) (by kernel_rfl) (fun K hK => ?_)
   gi_wp2_with fail
   obtain ⟨u13, hw⟩ : ∃ W, u12.alloc (.cells #[] 90) = W := ⟨_, rfl⟩
   obtain ⟨bx, hbx⟩ : ∃ b, u12.heap.size = b := ⟨_, rfl⟩
   have hrow := row_emptyRG (fun g => wA.heap.size <= g) u12 HBu12.out.size
   have hbd : Below wA.heap.size wA u13 := by rw [<- hw]; exact HBu12.out.alloc HBu12.out.size _
   have hgx : GRd 7 (.slice (some ⟨b2, 0, none⟩) 1 1) [[.slice on l2.length cn, .int .u32 5, .int .i64 16, .slice none 0 0, .slice none 0 0, .slice (some ⟨w1.heap.size, 0, none⟩) 1 1, .slice none 0 0]] u13 := by rw [<- hw]; exact HGX.out.below ((Below.refl _ _).alloc (Nat.le_refl _) _)
   have HNE : Hid (∀ g, (Value.slice (some ⟨bx, 0, none⟩) 0 0).ownBlock = some g -> g ≠ b2) := fun g hg => by have := HLT.out; have h : bx = g := (by simpa [Value.ownBlock] using hg); omega
   clear HGX
   have HGX := Lib.hid hgx
   clear hgx
   rw [hw, hbx] at hrow
   rw [hw, hbx]
   have HROW := Lib.hid hrow
   have HBu13 := Lib.hid hbd
   refine hK _ _ (fun _ => HCA.out u13 hbd) ?_
   clear hK K hw hbx hrow hbd
   refine oneH 3 (by rfl) (by kernel_rfl) (fun K hK => ?_)
   gi_wp2_with (gi_at_builtin; refine append_g (fun g => wA.heap.size <= g) 90 _ 7 136 info_rec rfl (by decide) rfl _ _ _ Tryz.underlying24 rfl _ 0 [] (by rfl) HROW.out _ (lz.map encE) (by rfl) (HT.out u13 HBu13.out) (by have := HLZ.out; rw [List.length_map]; omega) (by omega) HBu13.out.size ?_; intro v10 u14 hrow10 hgr10)
   have HBu14 := Lib.hid (HBu13.out.grown hgr10 HBu13.out.size (fun g hg => HROW.out.2 g hg))
   have hrow11 : Row (fun g => wA.heap.size <= g) 90 7 v10 (lz.map encE).length (lz.map encE).flatten u14 := by rw [Nat.zero_add, List.nil_append] at hrow10; exact hrow10
   have hgx := HGX.out.grown75 hgr10 (fun g hg => HNE.out g hg)
   clear HGX
   have HGX := Lib.hid hgx
   clear hgx HNE
   clear HROW
   have HROW := Lib.hid hrow11
   refine hK _ _ (fun _ => HCA.out u14 HBu14.out) ?_
   clear hK K hrow10 hrow11 hgr10
   refine oneH 6 (by rfl) (by kernel_rfl) (fun K hK => ?_)
   gi_wp2_with (gi_at_builtin; refine append_g (fun g => wA.heap.size <= g) 90 _ 7 136 info_rec rfl (by decide) rfl _ _ _ Tryz.underlying24 rfl _ (lz.map encE).length (lz.map encE) (by rfl) HROW.out _ [[.slice on l2.length cn, .int .u32 5, .int .i64 16, .slice none 0 0, .slice none 0 0, .slice (some ⟨w1.heap.size, 0, none⟩) 1 1, .slice none 0 0]] (by rfl) HGX.out (by have := HLZ.out; rw [List.length_map]; simp; omega) (by omega) HBu14.out.size ?_; intro v12 u15 hrow12 hgr12)
   have HBu15 := Lib.hid (HBu14.out.grown hgr12 HBu14.out.size (fun g hg => HROW.out.2 g hg))
   have hrr := HFIN.out u15 v12 HBu15.out hrow12
   rw [up_fst] at hrr
   obtain ⟨o12, c12, rfl⟩ : ∃ o c, v12 = .slice o (l1.length + 1) c := by obtain ⟨_, o, c, h, _⟩ := hrr; exact ⟨o, c, by rw [h, List.length_map, List.length_append, HLZ.out]; rfl⟩
   have HNW2 := Lib.hid (zNew_any (w := u15) oo l0.length co (.slice o12 (l1.length + 1) c12) ((lz ++ [xz]).map (El.up HBu15.out)) (by rw [up_fst]; exact hrr) (by rw [List.length_map, List.length_append, HLZ.out]; simp; omega))
   refine hK _ _ (fun _ => HCA.out u15 HBu15.out) ?_
   clear hK K hrow12 hgr12 HROW HGX hrr
   refine oneH 7 (by rfl) (by kernel_rfl) (fun K hK => ?_)
   gi_wp2_with (gi_at_call 12; refine (callsIn_wide.2 HNW2.out).mono ?_; rintro e u16 ⟨v7, l7, rfl, r7, p7, n7, b7⟩)
   obtain ⟨o7, c7, rfl⟩ : ∃ o cap, v7 = .slice o l7.length cap := by obtain ⟨_, o, cap, h, _⟩ := r7; exact ⟨o, cap, by rw [h, List.length_map]⟩
   have hp7 : plE (l7.map (El.up b7)) = Rc.canon (plE l ++ [⟨l2, 5, 16, [], [], [[111, 110, 101, 32, 109, 111, 114, 101]], []⟩]) := by
    rw [up_pl, p7, up_pl, plE_snoc, HPL.out, HXP.out]
   have HBu16 := Lib.hid (below5 HBu15.out b7)
   have HCZ2 := Lib.hid (ckZone_any (w := u16) (.slice oo l0.length co) (.slice o7 l7.length c7) (l7.map (El.up b7)) l0 (by rw [up_fst]; exact r7) (by rw [List.length_map]; rw [List.length_map, List.length_append, HLZ.out] at n7; simp at n7; omega) (HOW.out u16 HBu16.out) NBO.out)
   rw [hp7] at HCZ2
   refine hK _ _ (fun _ => HCA.out u16 HBu16.out) ?_
   clear hK K HNW2 r7 p7 n7 b7 hp7
   refine oneH 8 (by rfl) (by kernel_rfl) (fun K hK => ?_)
   gi_wp2_with (gi_at_call 41; refine (callsIn_wide.2 HCZ2.out).mono ?_; rintro e u17 ⟨vb, fb, rfl, gb, hofb, nfb, b8⟩)
   have HBu17 := Lib.hid (below5 HBu16.out b8)
   have HRES : Hid (GrB wA (Ck.raw l0 (Rc.canon (plE l ++ [⟨l2, 5, 16, [], [], [[111, 110, 101, 32, 109, 111, 114, 101]], []⟩]))) vb u17) := ⟨u16, fb, gb, hofb, nfb, b8, HBu17.out⟩
   refine hK _ _ (fun _ => HCA.out u17 HBu17.out) ?_
   clear hK K HCZ2 gb hofb nfb b8
   refine oneH 9 (by rfl) (by kernel_rfl) (fun K hK => ?_)
   gi_wp2_with fail
   refine hK _ _ (fun _ => HCA.out u17 HBu17.out) ?_
   clear hK K
   refine doneH (by kernel_rfl) ?_
   gi_wp2_with fail
   gi_meet
   case rel => exact HRES.out
 case rest =>
 obtain ⟨W9, rfl⟩ : ∃ W, W = wc := ⟨_, rfl⟩
 obtain ⟨U, fb, gb, hofb, nfb, bU, bA⟩ := hcut
 obtain ⟨ob, cb, e9, hb1, hb2⟩ := gb.form
 subst e9
 rw [List.length_map] at gb hb1 ⊢
 obtain ⟨hgr1, hgr2⟩ := Ck.grows (x := ⟨l2, 5, 16, [], [], [[111, 110, 101, 32, 109, 111, 114, 101]], []⟩) rfl HOFA.out hofb
 have HGR : Hid (∀ i (h : i < fa.length), fb.any (fun y => Ck.cmp fa[i].1.2 y.1.2 == 0) = true) := fun i h => by
  obtain ⟨g, hg, e⟩ := hgr1 fa[i].1.2 (List.mem_map.2 ⟨fa[i], List.getElem_mem h, rfl⟩)
  obtain ⟨y, hy, rfl⟩ := List.mem_map.1 hg
  exact List.any_eq_true.2 ⟨y, hy, by rw [beq_iff_eq]; exact e⟩
 have hlen : fb.length <= fa.length + 2 := by
  unfold plF at hgr2
  rw [List.length_map, List.length_map] at hgr2
  exact hgr2
 have HGB := Lib.hid gb
 have HBU := Lib.hid bU
 have HB9 := Lib.hid bA
 have HGA : Hid (GRd 3 (.slice oa fa.length ca) (fa.map encF) W9) := HFA.out.below bA
 have HB49 := Lib.hid (below5 HB5.out bA)
 obtain ⟨n, hn⟩ : ∃ n, fa.length = n := ⟨_, rfl⟩
 obtain ⟨m, hm⟩ : ∃ m, fb.length = m := ⟨_, rfl⟩
 have HNA := Lib.hid hn
 have HMB := Lib.hid hm
 rw [hn] at hlen nfa ha1 HGA ⊢
 rw [hm] at hlen nfb hb1 HGB ⊢
 have nz : (n : Int) <= 1000 := by omega
 have mz : (m : Int) <= 1000 := by omega
 clear gb hofb bU bA hgr1 hgr2 hn hm HFA HOFA HFIN HCA HOW HPL HXP HXZ HT HLZ HXE HRC
 gi_wp2_with fail
 gi_loopw [10] (fun vi W => ∃ i : Nat, i <= n /\ vi = .int .i64 i /\ Below W9.heap.size W9 W) (fun vi _ => n - (intOf vi).toNat)
 case atStart => exact ⟨0, Nat.zero_le _, rfl, Below.refl _ _⟩
 case round =>
  obtain ⟨i, hi, rfl, hbw⟩ := hrel
  have HBW := Lib.hid hbw
  clear hbw
  by_cases hlt : i < n
  case neg =>
   have hlz : ¬ ((i : Int) < (n : Int)) := by omega
   have h3z : (m : Int) <= (n : Int) + 3 := by omega
   have hw3 : IntKind.i64.wrap ((n : Int) + 3) = (n : Int) + 3 := IntWalk.i64_in _ (by omega)
   have h3d : decide ((m : Int) <= (n : Int) + 3) = true := decide_eq_true h3z
   gi_wp2_with fail
   go_ret
   exact ⟨rfl, below5 HWA.out (below5 HB9.out HBW.out)⟩
  case pos =>
  have hlz : (i : Int) < (n : Int) := by omega
  obtain ⟨wi, rfl⟩ : ∃ wi, wi = wr := ⟨_, rfl⟩
  have hia : i < fa.length := by rw [HNA.out]; exact hlt
  obtain ⟨x, hx⟩ : ∃ x, fa[i] = x := ⟨_, rfl⟩
  obtain ⟨p0, n0, q0, ex, _⟩ := x.cells
  have hxr := x.2.1
  rw [show x.1.1 = _ from ex] at hxr
  obtain ⟨xk, hxk⟩ : ∃ z, x.1.2.kind = z := ⟨_, rfl⟩
  obtain ⟨xt, hxt⟩ : ∃ z, x.1.2.type = z := ⟨_, rfl⟩
  rw [hxk, hxt] at ex hxr
  obtain ⟨ga, rfl, _⟩ := HGA.out.elF _ (Below.refl _ _) i hia _ _ _ (by rw [hx]; exact ex)
  obtain ⟨ei, hei⟩ : ∃ e, ga.add (i * 3) = e := ⟨_, rfl⟩
  have HCI : Hid (∀ W', Below W9.heap.size W9 W' -> W'.cell? ei = some (Value.int .i64 xk) /\ W'.cell? ⟨ei.block, ei.off + 1, none⟩ = some (.slice p0 n0 q0) /\ W'.cell? ⟨ei.block, ei.off + 2, none⟩ = some (.int .i64 xt)) := fun W' hW => by
   obtain ⟨a', ha', c0, c1, c2⟩ := HGA.out.elF _ hW i hia _ _ _ (by rw [hx]; exact ex)
   cases ha'
   rw [hei] at c0 c1 c2
   exact ⟨c0, c1, c2⟩
  have HON : Hid (fb.any (fun y => Ck.cmp x.1.2 y.1.2 == 0) = true) := by have h := HGR.out i hia; rw [hx] at h; exact h
  have HXR := Lib.hid hxr
  clear hx ex hxr hxk hxt
  gi_wp2_with fail
  gi_loopw [11, 12] (fun v11 v12 W => ∃ k : Nat, k <= m /\ v12 = .int .i64 k /\ v11 = .bool ((fb.take k).any (fun y => Ck.cmp x.1.2 y.1.2 == 0)) /\ Below W9.heap.size W9 W) (fun _ v12 _ => m - (intOf v12).toNat)
  case atStart => exact ⟨0, Nat.zero_le _, rfl, rfl, HBW.out⟩
  case round =>
   obtain ⟨k, hk, rfl, rfl, hbw⟩ := hrel
   have HBK := Lib.hid hbw
   clear hbw
   by_cases hkt : k < m
   case neg =>
    have hkz : ¬ ((k : Int) < (m : Int)) := by omega
    have hon : (fb.take k).any (fun y => Ck.cmp x.1.2 y.1.2 == 0) = true := by
     rw [List.take_of_length_le (by rw [HMB.out]; omega)]; exact HON.out
    rw [hon]
    clear hon
    gi_wp2_with fail
    go_roundw
    case rel => exact ⟨i + 1, hlt, by go_num, HBK.out⟩
    case measure => simp [intOf]; omega
   case pos =>
   have hkz : (k : Int) < (m : Int) := by omega
   have hkb : k < fb.length := by rw [HMB.out]; exact hkt
   obtain ⟨y, hy⟩ : ∃ y, fb[k] = y := ⟨_, rfl⟩
   obtain ⟨p1, n1, q1, ey, _⟩ := y.cells
   have hyr := y.2.1
   rw [show y.1.1 = _ from ey] at hyr
   obtain ⟨yk, hyk⟩ : ∃ z, y.1.2.kind = z := ⟨_, rfl⟩
   obtain ⟨yt, hyt⟩ : ∃ z, y.1.2.type = z := ⟨_, rfl⟩
   rw [hyk, hyt] at ey hyr
   obtain ⟨gb, rfl, _⟩ := HGB.out.elF _ (Below.refl _ _) k hkb _ _ _ (by rw [hy]; exact ey)
   obtain ⟨ek, hek⟩ : ∃ e, gb.add (k * 3) = e := ⟨_, rfl⟩
   have HCS : Hid (∀ W', Below W9.heap.size W9 W' -> (Cs [(ei, Value.int .i64 xk), (⟨ei.block, ei.off + 1, none⟩, .slice p0 n0 q0), (⟨ei.block, ei.off + 2, none⟩, .int .i64 xt), (ek, .int .i64 yk), (⟨ek.block, ek.off + 1, none⟩, .slice p1 n1 q1), (⟨ek.block, ek.off + 2, none⟩, .int .i64 yt)]) W') := fun W' hW => by
    obtain ⟨a', ha', c0, c1, c2⟩ := HGB.out.elF _ hW k hkb _ _ _ (by rw [hy]; exact ey)
    cases ha'
    rw [hek] at c0 c1 c2
    obtain ⟨d0, d1, d2⟩ := HCI.out W' hW
    exact ⟨d0, d1, d2, c0, c1, c2, trivial⟩
   obtain ⟨z, hz⟩ : ∃ z, Ck.cmp x.1.2 y.1.2 = z := ⟨_, rfl⟩
   have HCM : Hid (∀ W', Below W9.heap.size W9 W' -> Calls Tryz.prog 44 #[.agg #[.int .i64 xk, .slice p0 n0 q0, .int .i64 xt], .agg #[.int .i64 yk, .slice p1 n1 q1, .int .i64 yt]] W' (Gives (.int .i64 z) W')) := fun W' hW => by
    have h := ckCompare_any [.int .i64 xk, .slice p0 n0 q0, .int .i64 xt] [.int .i64 yk, .slice p1 n1 q1, .int .i64 yt] x.1.2 y.1.2 W' (HXR.out.below (below5 HB49.out hW)) (hyr.below (below5 HBU.out hW)) x.2.2 y.2.2
    rw [hz] at h; exact h
   obtain ⟨bk, hbk⟩ : ∃ b, (fb.take k).any (fun y => Ck.cmp x.1.2 y.1.2 == 0) = b := ⟨_, rfl⟩
   have hnx : (fb.take (k + 1)).any (fun y => Ck.cmp x.1.2 y.1.2 == 0) = (bk || (z == 0)) := by
    rw [List.take_succ_eq_append_getElem hkb, List.any_append, hbk, hy]
    simp [hz]
   rw [hbk]
   have HNX := Lib.hid hnx
   clear hy ey hyr hyk hyt hz hbk hnx
   cases bk with
   | true =>
    gi_wp2_with fail
    refine drawnH (List.range 13) (Cs [(ei, Value.int .i64 xk), (⟨ei.block, ei.off + 1, none⟩, .slice p0 n0 q0), (⟨ei.block, ei.off + 2, none⟩, .int .i64 xt), (ek, .int .i64 yk), (⟨ek.block, ek.off + 1, none⟩, .slice p1 n1 q1), (⟨ek.block, ek.off + 2, none⟩, .int .i64 yt)]) 14 rfl (by kernel_rfl) ?_
    intro wa hwa
    have HBA : Hid (Below W9.heap.size W9 wa) := by subst hwa; exact HBK.out.drew
    have hS := HCS.out wa HBA.out
    clear hwa
    refine tH 0 ?qiav0 hS (fun w1 ⟨d0, d1, d2, c0, c1, c2, _⟩ => ?qiay0) ?_
    case qiay0 => (go_simp; try first | rfl | (rw [if_pos (by omega)]) | (rw [if_neg (by omega)]) | (rw [if_neg (by simp; omega)]) | (split <;> first | (exfalso; omega) | rfl))
    refine tH 1 ?qiav1 hS (fun w1 ⟨d0, d1, d2, c0, c1, c2, _⟩ => ?qiay1) ?_
    case qiay1 => (go_simp; try first | rfl | (rw [if_pos (by omega)]) | (rw [if_neg (by omega)]) | (rw [if_neg (by simp; omega)]) | (split <;> first | (exfalso; omega) | rfl))
    simp only [Act.put, List.setIfInBounds_toArray, List.set_cons_succ, List.set_cons_zero]
    refine tU 2 hS ?_
    refine tU 3 hS ?_
    refine tU 4 hS ?_
    refine tU 5 hS ?_
    refine tU 6 hS ?_
    refine tU 7 hS ?_
    refine tU 8 hS ?_
    refine tU 9 hS ?_
    refine tU 10 hS ?_
    refine tU 11 hS ?_
    simp only [Act.put, List.setIfInBounds_toArray, List.set_cons_succ, List.set_cons_zero]
    refine tH 12 ?qibv12 hS (fun w1 ⟨d0, d1, d2, c0, c1, c2, _⟩ => ?qiby12) ?_
    case qiby12 => (go_simp; try first | rfl | (rw [if_pos (by omega)]) | (rw [if_neg (by omega)]) | (rw [if_neg (by simp; omega)]) | (split <;> first | (exfalso; omega) | rfl))
    simp only [Act.put, List.setIfInBounds_toArray, List.set_cons_succ, List.set_cons_zero]
    refine oneH 13 (by rfl) (by kernel_rfl) (fun K hK => ?_)
    gi_wp2_with fail
    refine hK _ _ (fun h => absurd h (by decide)) ?_
    clear hK K
    refine doneH (by kernel_rfl) ?_
    clear hS
    gi_wp2_with fail
    exact ⟨⟨k + 1, hkt, by go_num, by rw [HNX.out]; rfl, HBA.out⟩, by simp [intOf]; omega⟩
   | false =>
    gi_wp2_with fail
    refine drawnH (List.range 13) (Cs [(ei, Value.int .i64 xk), (⟨ei.block, ei.off + 1, none⟩, .slice p0 n0 q0), (⟨ei.block, ei.off + 2, none⟩, .int .i64 xt), (ek, .int .i64 yk), (⟨ek.block, ek.off + 1, none⟩, .slice p1 n1 q1), (⟨ek.block, ek.off + 2, none⟩, .int .i64 yt)]) 14 rfl (by kernel_rfl) ?_
    intro wa hwa
    have HBA : Hid (Below W9.heap.size W9 wa) := by subst hwa; exact HBK.out.drew
    have hS := HCS.out wa HBA.out
    clear hwa
    refine tH 0 ?qjav0 hS (fun w1 ⟨d0, d1, d2, c0, c1, c2, _⟩ => ?qjay0) ?_
    case qjay0 => (go_simp; try first | rfl | (rw [if_pos (by omega)]) | (rw [if_neg (by omega)]) | (rw [if_neg (by simp; omega)]) | (split <;> first | (exfalso; omega) | rfl))
    refine tH 1 ?qjav1 hS (fun w1 ⟨d0, d1, d2, c0, c1, c2, _⟩ => ?qjay1) ?_
    case qjay1 => (go_simp; try first | rfl | (rw [if_pos (by omega)]) | (rw [if_neg (by omega)]) | (rw [if_neg (by simp; omega)]) | (split <;> first | (exfalso; omega) | rfl))
    refine tH 2 ?qjav2 hS (fun w1 ⟨d0, d1, d2, c0, c1, c2, _⟩ => ?qjay2) ?_
    case qjay2 => (go_simp; try first | rfl | (rw [if_pos (by omega)]) | (rw [if_neg (by omega)]) | (rw [if_neg (by simp; omega)]) | (split <;> first | (exfalso; omega) | rfl))
    refine tH 3 ?qjav3 hS (fun w1 ⟨d0, d1, d2, c0, c1, c2, _⟩ => ?qjay3) ?_
    case qjay3 => (go_simp; try first | rfl | (rw [if_pos (by omega)]) | (rw [if_neg (by omega)]) | (rw [if_neg (by simp; omega)]) | (split <;> first | (exfalso; omega) | rfl))
    refine tH 4 ?qjav4 hS (fun w1 ⟨d0, d1, d2, c0, c1, c2, _⟩ => ?qjay4) ?_
    case qjay4 => (go_simp; try first | rfl | (rw [if_pos (by omega)]) | (rw [if_neg (by omega)]) | (rw [if_neg (by simp; omega)]) | (split <;> first | (exfalso; omega) | rfl))
    refine tH 5 ?qjav5 hS (fun w1 ⟨d0, d1, d2, c0, c1, c2, _⟩ => ?qjay5) ?_
    case qjay5 => (go_simp; try first | rfl | (rw [if_pos (by omega)]) | (rw [if_neg (by omega)]) | (rw [if_neg (by simp; omega)]) | (split <;> first | (exfalso; omega) | rfl))
    refine tH 6 ?qjav6 hS (fun w1 ⟨d0, d1, d2, c0, c1, c2, _⟩ => ?qjay6) ?_
    case qjay6 => (go_simp; try first | rfl | (rw [if_pos (by omega)]) | (rw [if_neg (by omega)]) | (rw [if_neg (by simp; omega)]) | (split <;> first | (exfalso; omega) | rfl))
    refine tH 7 ?qjav7 hS (fun w1 ⟨d0, d1, d2, c0, c1, c2, _⟩ => ?qjay7) ?_
    case qjay7 => (go_simp; try first | rfl | (rw [if_pos (by omega)]) | (rw [if_neg (by omega)]) | (rw [if_neg (by simp; omega)]) | (split <;> first | (exfalso; omega) | rfl))
    refine tH 8 ?qjav8 hS (fun w1 ⟨d0, d1, d2, c0, c1, c2, _⟩ => ?qjay8) ?_
    case qjay8 => (go_simp; try first | rfl | (rw [if_pos (by omega)]) | (rw [if_neg (by omega)]) | (rw [if_neg (by simp; omega)]) | (split <;> first | (exfalso; omega) | rfl))
    refine tH 9 ?qjav9 hS (fun w1 ⟨d0, d1, d2, c0, c1, c2, _⟩ => ?qjay9) ?_
    case qjay9 => (go_simp; try first | rfl | (rw [if_pos (by omega)]) | (rw [if_neg (by omega)]) | (rw [if_neg (by simp; omega)]) | (split <;> first | (exfalso; omega) | rfl))
    simp only [Act.put, List.setIfInBounds_toArray, List.set_cons_succ, List.set_cons_zero]
    refine oneH 10 (by rfl) (by kernel_rfl) (fun K hK => ?_)
    gi_wp2_with (gi_at_call 44; refine (callsIn_wide.2 (HCM.out wa HBA.out)).mono ?_; rintro e9 wb ⟨rfl, b9⟩)
    have HBB := Lib.hid (below5 HBA.out b9)
    replace hS := HCS.out wb HBB.out
    refine hK _ _ (fun _ => hS) ?_
    clear hK K b9
    refine tH 11 ?qjbv11 hS (fun w1 ⟨d0, d1, d2, c0, c1, c2, _⟩ => ?qjby11) ?_
    case qjby11 => (go_simp; try first | rfl | (rw [if_pos (by omega)]) | (rw [if_neg (by omega)]) | (rw [if_neg (by simp; omega)]) | (split <;> first | (exfalso; omega) | rfl))
    refine tH 12 ?qjbv12 hS (fun w1 ⟨d0, d1, d2, c0, c1, c2, _⟩ => ?qjby12) ?_
    case qjby12 => (go_simp; try first | rfl | (rw [if_pos (by omega)]) | (rw [if_neg (by omega)]) | (rw [if_neg (by simp; omega)]) | (split <;> first | (exfalso; omega) | rfl))
    simp only [Act.put, List.setIfInBounds_toArray, List.set_cons_succ, List.set_cons_zero]
    refine oneH 13 (by rfl) (by kernel_rfl) (fun K hK => ?_)
    gi_wp2_with fail
    refine hK _ _ (fun h => absurd h (by decide)) ?_
    clear hK K
    refine doneH (by kernel_rfl) ?_
    clear hS
    gi_wp2_with fail
    exact ⟨⟨k + 1, hkt, by go_num, by rw [HNX.out, Bool.false_or], HBB.out⟩, by simp [intOf]; omega⟩
end Go.Proofs.YtneghhbclefmoaaGreat
