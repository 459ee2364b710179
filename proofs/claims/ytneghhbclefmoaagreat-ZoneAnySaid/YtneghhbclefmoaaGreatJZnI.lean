/- Zones: a host's addresses. -/
import Derived.Test.YtneghhbclefmoaaGreatJGdF
namespace Go.Proofs.YtneghhbclefmoaaGreat
open Go.RowKit Go.Shelf Go.Sort
set_option maxRecDepth 100000

def Rs.datOf (c : List Rc.PRec) : List Rc.PRec := match c with
  | [] => []
  | x :: xs => (x :: xs).take (Rs.run x (x :: xs))
def Zn.glueT (L : List Rc.PRec) (h : List (List UInt8)) : Nat → List Rc.PRec
  | 0 => []
  | k + 1 => Zn.glueT L h k ++ Rs.datOf (Rs.mine L h (if k = 0 then 1 else 28))
theorem ofV.data {w : World} {c : List (El w)} {v : Value} {W : World} (h : ofV c v W) : ∃ pa pn pc t tt od n cd d, v = .agg #[.slice pa pn pc, .int .i64 t, .int .u32 tt, .slice od n cd] ∧ (d : List (El w)).length = n ∧ DatsRd (.slice od n cd) d W ∧ plE d = Rs.datOf (plE c) ∧ d.length ≤ c.length := by
  match c, h with
  | [], h => exact ⟨_, _, _, _, _, _, _, _, [], h, rfl, DatsRd.nil W, rfl, Nat.le_refl _⟩
  | x :: xs, ⟨vo, od, cd, h1, h2, h3⟩ =>
    have hl : ((x :: xs).take (Rs.run x.1.2 (plE (x :: xs)))).length = Rs.run x.1.2 (plE (x :: xs)) := by
      have := Rs.run_le x.1.2 (plE (x :: xs))
      rw [List.length_take]; simp only [plE, List.length_map] at this ⊢; omega
    obtain ⟨pa, pc, rfl, _⟩ := id h2
    refine ⟨pa, _, pc, _, _, od, _, cd, _, h1, hl, h3, ?_, by rw [List.length_take]; exact Nat.min_le_right _ _⟩
    simp [plE, Rs.datOf]
set_option maxHeartbeats 2000000 in
theorem zGlue_any {w w0 : World} (zo vr vn : Value) (l : List (El w)) (n : List (List UInt8)) (hb0 : Below w.heap.size w w0) (hv : RecsRd vr (l.map (·.1)) w0) (na : l.length ≤ 1000) (hn : Rd vn n w0) (nn : NB n) :
    Calls Tryz.prog 28 #[.agg #[zo, vr], vn] w0 fun e w' => ∃ o c, ∃ d : List (El w), e = .returned (.slice o d.length c) ∧ DatsRd (.slice o d.length c) d w' ∧ plE d = Zn.glueT (plE l) n 2 ∧ Below w0.heap.size w0 w' := by
  obtain ⟨on, cn, rfl, _, _⟩ := hn.form
  obtain ⟨ov, cv, rfl⟩ : ∃ o cap, vr = .slice o l.length cap := by obtain ⟨_, o, cap, h, _⟩ := hv; exact ⟨o, cap, by rw [h, List.length_map]⟩
  obtain ⟨W1, hW1⟩ : ∃ W1, w0.alloc (.cells #[zo, .slice ov l.length cv] 29) = W1 := ⟨_, rfl⟩
  obtain ⟨W2, hW2⟩ : ∃ W2, W1.alloc (.cells #[.int .i64 1, .int .i64 28] 3) = W2 := ⟨_, rfl⟩
  have s1 : W1.heap.size = w0.heap.size + 1 := by subst hW1; simp
  have hb1 : Below w0.heap.size w0 W1 := by subst hW1; exact (Below.refl _ _).alloc (Nat.le_refl _) _
  have hb2 : Below w0.heap.size w0 W2 := by subst hW2; exact hb1.alloc hb1.size _
  have k0 : Blk w0.heap.size #[zo, .slice ov l.length cv] 29 W2 := by subst hW2; subst hW1; exact (Blk.new w0 _ _).alloc _
  have k1 : Blk (w0.heap.size + 1) #[.int .i64 1, .int .i64 28] 3 W2 := by
    have := Blk.new W1 #[.int .i64 1, .int .i64 28] 3
    rwa [hW2, s1] at this
  have s2 : W2.heap.size = w0.heap.size + 2 := by subst hW2; simp [s1]
  have K0 := Lib.hid k0
  have K1 := Lib.hid k1
  have HB2 := Lib.hid hb2
  have HOF := Lib.hid (fun W' (hW : Below w0.heap.size w0 W') (t : Int) => rsetOf_any (.slice ov l.length cv) (.slice on n.length cn) l n t (below5 hb0 hW) (hv.kept hW) na (hn.below hW) nn)
  have hln : (l.length : Int) ≤ 1000 := by omega
  clear hv hn nn hb1 hb2 k0 k1 hb0
  refine (callsIn_wide (n := 0)).1 ?_
  refine callsIn_of_wp Tryz.func28 rfl trivial ?_ rfl
  simp only [Tryz.ntmps28, List.size_toArray, List.length_cons, List.length_nil, Nat.reduceAdd, Nat.reduceSub, Array.replicate_succ, Array.replicate_zero, List.push_toArray, List.append_toArray, List.nil_append, List.cons_append]
  gi_wp2
  gi_loopw [5, 12] (fun v5 v12 W => ∃ k : Nat, k ≤ 2 ∧ v12 = .int .i64 k ∧ Below W2.heap.size W2 W ∧ ∃ d : List (El w), plE d = Zn.glueT (plE l) n k ∧ d.length ≤ k * 1000 ∧ Row (fun g => W2.heap.size ≤ g) 88 5 v5 d.length (d.flatMap encD) W) (fun _ v12 _ => 2 - (intOf v12).toNat)
  case atStart => exact ⟨0, by omega, rfl, Below.refl _ _, [], rfl, Nat.zero_le _, Row.nil _ _ _ _⟩
  case round =>
    obtain ⟨k, hk, rfl, hb, d, hd, hdl, hrow⟩ := hrel
    clear hW1 hW2
    have HROW := Lib.hid hrow
    have HD := Lib.hid hd
    have HBB := Lib.hid hb
    have q01 : wr.cell? ⟨w0.heap.size, 1, none⟩ = some _ := (K0.out.below hb).cell 1
    have q10 : wr.cell? ⟨w0.heap.size + 1, 0, none⟩ = some _ := (K1.out.below hb).cell 0
    have q11 : wr.cell? ⟨w0.heap.size + 1, 1, none⟩ = some _ := (K1.out.below hb).cell 1
    have hbw := below5 HB2.out hb
    clear hrow hd
    rcases (show k = 0 ∨ k = 1 ∨ k = 2 by omega) with rfl | rfl | rfl
    · have HC := Lib.hid (HOF.out _ hbw 1)
      gi_wp2_with fail
      refine (callsIn_wide.2 HC.out).mono ?_
      rintro e w5 ⟨c, v, hcp, hcl, rfl, hov, b5⟩
      obtain ⟨pa, pn, pc, t5, tt5, od, nd, cd, d5, rfl, hd5l, hd5, hd5p, hd5c⟩ := hov.data
      have HCP := Lib.hid (hd5p.trans (congrArg Rs.datOf hcp))
      have HDL := Lib.hid (show d5.length ≤ 1000 by omega)
      have HD5L := Lib.hid hd5l
      obtain ⟨Wa, hWa⟩ : ∃ Wa, w5.alloc (.cells #[.slice none 0 0, .int .i64 0, .int .u32 0, .slice none 0 0] 116) = Wa := ⟨_, rfl⟩
      have hblk : Blk w5.heap.size #[.slice none 0 0, .int .i64 0, .int .u32 0, .slice none 0 0] 116 Wa := by subst hWa; exact Blk.new w5 _ _
      have hba : Below w5.heap.size w5 Wa := by subst hWa; exact (Below.refl _ _).alloc (Nat.le_refl _) _
      obtain ⟨Wb, hWb⟩ : ∃ Wb, (((Wa.setCell ⟨w5.heap.size, 0, none⟩ (.slice pa pn pc)).setCell ⟨w5.heap.size, 1, none⟩ (.int .i64 t5)).setCell ⟨w5.heap.size, 2, none⟩ (.int .u32 tt5)).setCell ⟨w5.heap.size, 3, none⟩ (.slice od nd cd) = Wb := ⟨_, rfl⟩
      have hblb : Blk w5.heap.size #[.slice pa pn pc, .int .i64 t5, .int .u32 tt5, .slice od nd cd] 116 Wb := by
        subst hWb; exact (((hblk.setAt 0 _).setAt 1 _).setAt 2 _).setAt 3 _
      have hbb : Below w5.heap.size w5 Wb := by
        subst hWb
        exact (((hba.setCell (p := ⟨w5.heap.size, 0, none⟩) (Nat.le_refl _) _).setCell (p := ⟨w5.heap.size, 1, none⟩) (Nat.le_refl _) _).setCell (p := ⟨w5.heap.size, 2, none⟩) (Nat.le_refl _) _).setCell (p := ⟨w5.heap.size, 3, none⟩) (Nat.le_refl _) _
      have a0 : Wa.cell? ⟨w5.heap.size, 0, none⟩ = some _ := hblk.cell 0
      have a1 : Wa.cell? ⟨w5.heap.size, 1, none⟩ = some _ := hblk.cell 1
      have a2 : Wa.cell? ⟨w5.heap.size, 2, none⟩ = some _ := hblk.cell 2
      have a3 : Wa.cell? ⟨w5.heap.size, 3, none⟩ = some _ := hblk.cell 3
      have z0 := hblk.frozen 0
      have z1 := hblk.frozen 1
      have z2 := hblk.frozen 2
      have z3 := hblk.frozen 3
      have b3 : Wb.cell? ⟨w5.heap.size, 3, none⟩ = some _ := hblb.cell 3
      have hbr : Below wr.heap.size wr Wb := below5 b5 hbb
      have hrow5 := HROW.out.below hbr
      have hdb := hd5.below hbb
      have HBR := Lib.hid hbr
      have hsz : W2.heap.size ≤ Wb.heap.size := by have h1 := hbr.size; have h2 := HBB.out.size; omega
      have HSZ := Lib.hid hsz
      have hlen : d.length + d5.length ≤ 100000 := by have := HDL.out; omega
      rw [← hd5l] at hdb b3 hWb
      rw [← hd5l]
      clear hcp hov hd5 hd5p hd5c hblk hba hblb hbb hbr hsz hcl hd5l
      gi_wp2_with (gi_at_builtin; refine append_dats (fun g => W2.heap.size ≤ g) rfl _ _ _ Tryz.underlying49 rfl _ d.length (d.flatMap encD) (by rfl) hrow5 _ d5 (by rfl) hdb hlen HSZ.out ?_; intro v10 w10 hrow10 hgr10)
      refine ⟨⟨1, by omega, by go_num, (HBB.out.trans (HBR.out.mono HBB.out.size)).grown hgr10 HSZ.out (fun g hg => hrow5.2 g hg), d ++ d5, ?_, by have := HDL.out; rw [List.length_append]; omega, ?_⟩, by simp [intOf]⟩
      · rw [show plE (d ++ d5) = plE d ++ plE d5 by simp [plE], HD.out, HCP.out]; rfl
      · rw [List.length_append, List.flatMap_append]; exact hrow10
    · have HC := Lib.hid (HOF.out _ hbw 28)
      gi_wp2_with fail
      refine (callsIn_wide.2 HC.out).mono ?_
      rintro e w5 ⟨c, v, hcp, hcl, rfl, hov, b5⟩
      obtain ⟨pa, pn, pc, t5, tt5, od, nd, cd, d5, rfl, hd5l, hd5, hd5p, hd5c⟩ := hov.data
      have HCP := Lib.hid (hd5p.trans (congrArg Rs.datOf hcp))
      have HDL := Lib.hid (show d5.length ≤ 1000 by omega)
      have HD5L := Lib.hid hd5l
      obtain ⟨Wa, hWa⟩ : ∃ Wa, w5.alloc (.cells #[.slice none 0 0, .int .i64 0, .int .u32 0, .slice none 0 0] 116) = Wa := ⟨_, rfl⟩
      have hblk : Blk w5.heap.size #[.slice none 0 0, .int .i64 0, .int .u32 0, .slice none 0 0] 116 Wa := by subst hWa; exact Blk.new w5 _ _
      have hba : Below w5.heap.size w5 Wa := by subst hWa; exact (Below.refl _ _).alloc (Nat.le_refl _) _
      obtain ⟨Wb, hWb⟩ : ∃ Wb, (((Wa.setCell ⟨w5.heap.size, 0, none⟩ (.slice pa pn pc)).setCell ⟨w5.heap.size, 1, none⟩ (.int .i64 t5)).setCell ⟨w5.heap.size, 2, none⟩ (.int .u32 tt5)).setCell ⟨w5.heap.size, 3, none⟩ (.slice od nd cd) = Wb := ⟨_, rfl⟩
      have hblb : Blk w5.heap.size #[.slice pa pn pc, .int .i64 t5, .int .u32 tt5, .slice od nd cd] 116 Wb := by
        subst hWb; exact (((hblk.setAt 0 _).setAt 1 _).setAt 2 _).setAt 3 _
      have hbb : Below w5.heap.size w5 Wb := by
        subst hWb
        exact (((hba.setCell (p := ⟨w5.heap.size, 0, none⟩) (Nat.le_refl _) _).setCell (p := ⟨w5.heap.size, 1, none⟩) (Nat.le_refl _) _).setCell (p := ⟨w5.heap.size, 2, none⟩) (Nat.le_refl _) _).setCell (p := ⟨w5.heap.size, 3, none⟩) (Nat.le_refl _) _
      have a0 : Wa.cell? ⟨w5.heap.size, 0, none⟩ = some _ := hblk.cell 0
      have a1 : Wa.cell? ⟨w5.heap.size, 1, none⟩ = some _ := hblk.cell 1
      have a2 : Wa.cell? ⟨w5.heap.size, 2, none⟩ = some _ := hblk.cell 2
      have a3 : Wa.cell? ⟨w5.heap.size, 3, none⟩ = some _ := hblk.cell 3
      have z0 := hblk.frozen 0
      have z1 := hblk.frozen 1
      have z2 := hblk.frozen 2
      have z3 := hblk.frozen 3
      have b3 : Wb.cell? ⟨w5.heap.size, 3, none⟩ = some _ := hblb.cell 3
      have hbr : Below wr.heap.size wr Wb := below5 b5 hbb
      have hrow5 := HROW.out.below hbr
      have hdb := hd5.below hbb
      have HBR := Lib.hid hbr
      have hsz : W2.heap.size ≤ Wb.heap.size := by have h1 := hbr.size; have h2 := HBB.out.size; omega
      have HSZ := Lib.hid hsz
      have hlen : d.length + d5.length ≤ 100000 := by have := HDL.out; omega
      rw [← hd5l] at hdb b3 hWb
      rw [← hd5l]
      clear hcp hov hd5 hd5p hd5c hblk hba hblb hbb hbr hsz hcl hd5l
      gi_wp2_with (gi_at_builtin; refine append_dats (fun g => W2.heap.size ≤ g) rfl _ _ _ Tryz.underlying49 rfl _ d.length (d.flatMap encD) (by rfl) hrow5 _ d5 (by rfl) hdb hlen HSZ.out ?_; intro v10 w10 hrow10 hgr10)
      refine ⟨⟨2, by omega, by go_num, (HBB.out.trans (HBR.out.mono HBB.out.size)).grown hgr10 HSZ.out (fun g hg => hrow5.2 g hg), d ++ d5, ?_, by have := HDL.out; rw [List.length_append]; omega, ?_⟩, by simp [intOf]⟩
      · rw [show plE (d ++ d5) = plE d ++ plE d5 by simp [plE], HD.out, HCP.out]; rfl
      · rw [List.length_append, List.flatMap_append]; exact hrow10
    · clear q10 q11
      gi_wp2_with fail
      obtain ⟨o5, c5, hv5⟩ := HROW.out.form
      have hdr := Row.dats HROW.out
      rw [hv5] at hdr ⊢
      have HCL := Lib.hid (clipDat_any o5 c5 d wr hdr (by omega))
      have HDR := Lib.hid hdr.clip
      clear hdr hv5
      refine (callsIn_wide.2 HCL.out).mono ?_
      rintro ez Wy ⟨rfl, rfl⟩
      gi_wp2_with fail
      go_ret
      exact ⟨o5, d.length, d, rfl, HDR.out, HD.out, hbw⟩
end Go.Proofs.YtneghhbclefmoaaGreat
