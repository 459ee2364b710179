/- The walk of ZoneAgain. -/
import Derived.Test.YtneghhbclefmoaaJZnO
namespace Go.Proofs.Ytneghhbclefmoaa
open Go.RowKit Go.Shelf Go.Sort
set_option maxRecDepth 100000

set_option maxHeartbeats 2000000 in
theorem walkZoneAgain (v0 : Value) (l0 : List (List UInt8)) (v1 : Value) (l1 : List RP) (a2 : Int) (v3 : Value) (l3 : List (List UInt8)) (w : World) (h0 : Rd v0 l0 w) (h1 : RecsRd v1 l1 w ∧ ∀ x ∈ l1, RN x.2) (h2 : (Lit.int .u8 a2).wf = true) (h3 : Rd v3 l3 w) :
    Calls Try.prog 4 #[v0, v1, .int .u8 a2, v3] w (Tr w) := by
  replace h2 : 0 ≤ a2 ∧ a2 ≤ 255 := by
    obtain ⟨b, rfl⟩ := wf_u8 h2
    have := b.toNat_lt
    omega
  obtain ⟨h1, hrn⟩ := h1
  obtain ⟨oo, co, rfl, ob1, ob2⟩ := h0.form
  obtain ⟨on, cn, rfl, nb1, nb2⟩ := h3.form
  obtain ⟨o1, c1, rfl, rb1, rb2⟩ := h1.shape
  obtain ⟨t2, rfl⟩ := Int.eq_ofNat_of_zero_le h2.1
  have ht2 : t2 ≤ 255 := by omega
  have HO := Lib.hid h0
  have HV := Lib.hid h1
  have HN := Lib.hid h3
  have HRN := Lib.hid hrn
  clear h0 h1 h2 h3 hrn
  refine (callsIn_wide (n := 0)).1 ?_
  refine callsIn_of_wp Try.func4 rfl trivial ?_ rfl
  simp only [Try.ntmps4, List.size_toArray, List.length_cons, List.length_nil, Nat.reduceAdd, Nat.reduceSub, Array.replicate_succ, Array.replicate_zero, List.push_toArray, List.append_toArray, List.nil_append, List.cons_append]
  gi_wp2_with fail
  refine (callsIn_wide.2 (known12_any _)).mono ?_
  rintro e w1 ⟨rfl, b1⟩
  have HG := Lib.hid (good12_any _ _ l0 l1 w1 (HO.out.below b1) (HV.out.kept b1))
  have HB1 := Lib.hid b1
  clear b1
  gi_wp2_with fail
  refine (callsIn_wide.2 HG.out).mono ?_
  rintro e w2 ⟨b, rfl, hq, b2⟩
  have HB2 := Lib.hid (below5 HB1.out b2)
  have HQ := Lib.hid hq
  clear HG b2 hq
  cases b with
  | false =>
    gi_wp2_with fail
    go_ret
    exact ⟨rfl, HB2.out⟩
  | true =>
  obtain ⟨hgo, hrf⟩ := HQ.out rfl
  obtain ⟨nbo, lo140, _, _⟩ := Nm.good2_parts hgo
  have HRF := Lib.hid hrf
  have NBO := Lib.hid nbo
  have HG2 := Lib.hid (good2_any _ l3 w2 (HN.out.below HB2.out))
  obtain ⟨bz, hbz⟩ : ∃ bz, Nm.good2 l3 = bz := ⟨_, rfl⟩
  have HBZ := Lib.hid hbz
  rw [hbz] at HG2
  clear hgo hrf nbo hbz HQ
  gi_wp2_with fail
  refine (callsIn_wide.2 HG2.out).mono ?_
  rintro e w3 ⟨rfl, b3⟩
  have HB3 := Lib.hid (below5 HB2.out b3)
  clear HG2 b3
  cases bz with
  | false =>
    gi_wp2_with fail
    go_ret
    exact ⟨rfl, HB3.out⟩
  | true =>
  obtain ⟨nbn, ln140, _, _⟩ := Nm.good2_parts HBZ.out
  have NBN := Lib.hid nbn
  clear nbn
  by_cases hz : l1.length = 0
  · rw [hz]
    gi_wp2_with fail
    go_ret
    exact ⟨rfl, HB3.out⟩
  have hz1 : ¬ (l1.length : Int) = 0 := by omega
  have hz2 : decide ((l1.length : Int) = 0) = false := decide_eq_false hz1
  obtain ⟨L, hL, hL60, hLl⟩ := els_of (HV.out.kept HB3.out) HRF.out HRN.out
  have hrec : RecsRd (.slice o1 l1.length c1) (L.map (·.1)) w3 := by rw [hL]; exact HV.out.kept HB3.out
  have HNEW := Lib.hid (zNew2_any (Below.refl _ _) oo l0.length co (.slice o1 l1.length c1) L hrec (by omega))
  have HL := Lib.hid hL
  clear hrec hL
  gi_wp2_with fail
  refine (callsIn_wide.2 HNEW.out).mono ?_
  rintro e w5 ⟨o5, c5, l5, rfl, _, hr5, hp5, hn5, b5⟩
  have na : l5.length ≤ 1000 := by omega
  obtain ⟨Wx, hWx⟩ : ∃ W, w5.alloc (.cells #[.slice none 0 0, .slice none 0 0] 30) = W := ⟨_, rfl⟩
  have kx : Blk w5.heap.size #[.slice none 0 0, .slice none 0 0] 30 Wx := by rw [← hWx]; exact Blk.new w5 _ _
  have g0 : Wx.cell? ⟨w5.heap.size, 0, none⟩ = some _ := kx.cell 0
  have g1 : Wx.cell? ⟨w5.heap.size, 1, none⟩ = some _ := kx.cell 1
  have f0 := kx.frozen 0
  have f1 := kx.frozen 1
  obtain ⟨Wy, hWy⟩ : ∃ W, (Wx.setCell ⟨w5.heap.size, 0, none⟩ (.slice oo l0.length co)).setCell ⟨w5.heap.size, 1, none⟩ (.slice o5 l5.length c5) = W := ⟨_, rfl⟩
  have ky : Blk w5.heap.size #[.slice oo l0.length co, .slice o5 l5.length c5] 30 Wy := by rw [← hWy]; exact (kx.setAt 0 _).setAt 1 _
  have bwy : Below w5.heap.size w5 Wy := by rw [← hWy, ← hWx]; exact (((Below.refl _ _).alloc (Nat.le_refl _) _).setCell (p := ⟨w5.heap.size, 0, none⟩) (Nat.le_refl _) _).setCell (p := ⟨w5.heap.size, 1, none⟩) (Nat.le_refl _) _
  have HZ := Lib.hid ky
  have HB35 := Lib.hid (below5 b5 bwy)
  have HBY := Lib.hid (below5 HB3.out (below5 b5 bwy))
  have HRY := Lib.hid (hr5.kept bwy)
  have HOY := Lib.hid (HO.out.below HBY.out)
  have HNY := Lib.hid (HN.out.below HBY.out)
  have HVY := Lib.hid (HV.out.kept HBY.out)
  have x0a : Wy.cell? ⟨w5.heap.size, 0, none⟩ = some _ := ky.cell 0
  have x0b : Wy.cell? ⟨w5.heap.size, 1, none⟩ = some _ := ky.cell 1
  have HP5 := Lib.hid hp5
  clear hr5 kx ky bwy b5 HNEW hp5 hn5
  obtain ⟨k, hk⟩ : ∃ k, t2 % l1.length = k := ⟨_, rfl⟩
  have hkl : k < l1.length := by rw [← hk]; exact Nat.mod_lt _ (by omega)
  have hki : (t2 : Int) % (l1.length : Int) = (k : Int) := by rw [← hk]; exact (Int.natCast_emod _ _).symm
  have hkt : (t2 : Int).tmod (l1.length : Int) = (k : Int) := by rw [Int.tmod_eq_emod_of_nonneg (by omega)]; exact hki
  gi_wp2_with fail
  have hkc : ¬ c1 = k := by omega
  have hLk : (L.drop k).length = l1.length - k := by simp; omega
  have hLt : (L.take k).length = k := by simp; omega
  have HTA := Lib.hid (fun (W : World) (hb : Below Wy.heap.size Wy W) => (show RecsRd (.slice (o1.map (·.add (k * 7))) (l1.length - k) (c1 - k)) ((L.drop k).map (·.1)) W by
    have h : RecsRd (.slice o1 l1.length c1) (L.map (·.1)) W := by rw [HL.out]; exact HVY.out.kept hb
    have h2 := RecsRd.tail (o := o1) (cap := c1) (l := L) (by rw [hLl]; exact h) k (by omega)
    rw [hLl] at h2
    exact h2))
  have HTB := Lib.hid (fun (W : World) (hb : Below Wy.heap.size Wy W) => (show RecsRd (.slice o1 k c1) ((L.take k).map (·.1)) W by
    have h : RecsRd (.slice o1 l1.length c1) (L.map (·.1)) W := by rw [HL.out]; exact HVY.out.kept hb
    exact RecsRd.init (o := o1) (cap := c1) (l := L) (by rw [hLl]; exact h) k (by omega)))
  obtain ⟨LD, hLD⟩ : ∃ M, L.drop k = M := ⟨_, rfl⟩
  obtain ⟨LT, hLT⟩ : ∃ M, L.take k = M := ⟨_, rfl⟩
  have HLD := Lib.hid (And.intro hLD hLT)
  have HLN := Lib.hid (And.intro (hLD ▸ hLk : LD.length = l1.length - k) (hLT ▸ hLt : LT.length = k))
  rw [hLD] at HTA
  rw [hLT] at HTB
  have hkz : (k : Int) ≤ (l1.length : Int) := by omega
  clear hLk hLt hLD hLT hWx hWy g0 g1 f0 f1
  refine wpIn_mono (Q := (fun e a' w' => e = .normal ∧ ∃ (g : Nat) (l6 : List (El w3)) (o6 : Option Addr) (c6 : Nat) (u38 u41 u42 u45 u46 u47 : Value), a' = { tmps := #[.slice oo l0.length co, .slice o1 l1.length c1, .int .u8 t2, .slice on l3.length cn, undef, undef, undef, undef, .bool false, .pointer (some ⟨w5.heap.size, 0, none⟩), .int .i64 k, .pointer (some ⟨g, 0, none⟩), undef, .bool true, .bool false, .slice oo l0.length co, .slice o1 l1.length c1, .bool true, .bool false, .bool false, .slice on l3.length cn, .bool true, .bool false, .bool false, .bool false, .slice o1 l1.length c1, .int .i64 l1.length, .bool false, .bool false, .slice oo l0.length co, .slice o1 l1.length c1, .agg #[.slice oo l0.length co, .slice o5 l5.length c5], .int .u8 t2, .int .i64 t2, .slice o1 l1.length c1, .int .i64 l1.length, .int .i64 k, .slice oo l0.length co, u38, .slice o1 l1.length c1, .int .i64 k, u41, u42, .slice o1 l1.length c1, .int .i64 k, u45, u46, u47, undef, undef, undef, undef, undef, undef, undef, undef, undef, undef, undef, undef, undef, undef, undef, undef, undef, undef, undef, undef, undef, undef, undef, undef, undef, undef, undef, undef, undef, undef, undef, undef, undef, undef], defers := [] } ∧ Below Wy.heap.size Wy w' ∧ Wy.heap.size ≤ g ∧ Blk g #[.slice oo l0.length co, .slice o6 l6.length c6] 30 w' ∧ RecsRd (.slice o6 l6.length c6) (l6.map (·.1)) w' ∧ plE l6 = Rc.canon (plE (L.drop k ++ L.take k)) ∧ l6.length ≤ 60)) ?_ ?_
  · refine drawnH [] (fun _ => True) 13 rfl (by kernel_rfl) ?_
    intro w6 hw6
    have hS : True := trivial
    have hb6 : Below Wy.heap.size Wy w6 := by subst hw6; exact (Below.refl _ _).drew
    clear hw6 x0a x0b
    refine takeP 0 (v := ?qv0) (fun _ => trivial) (by rfl) (by kernel_rfl) (.inl ⟨by kernel_rfl, fun w1 _ => ?qy0⟩) ?_
    case qy0 => (go_simp; try first | rfl | (rw [if_pos (by omega)]) | (rw [if_neg (by omega)]) | (rw [if_neg (by simp; omega)]) | (split <;> first | (exfalso; omega) | rfl))
    refine takeP 2 (v := ?qv2) (fun _ => trivial) (by rfl) (by kernel_rfl) (.inl ⟨by kernel_rfl, fun w1 _ => ?qy2⟩) ?_
    case qy2 => (go_simp; try first | rfl | (rw [if_pos (by omega)]) | (rw [if_neg (by omega)]) | (rw [if_neg (by simp; omega)]) | (split <;> first | (exfalso; omega) | rfl))
    refine takeP 3 (v := ?qv3) (fun _ => trivial) (by rfl) (by kernel_rfl) (.inl ⟨by kernel_rfl, fun w1 _ => ?qy3⟩) ?_
    case qy3 => (go_simp; try first | rfl | (rw [if_pos (by omega)]) | (rw [if_neg (by omega)]) | (rw [if_neg (by simp; omega)]) | (split <;> first | (exfalso; omega) | rfl))
    refine takeP 4 (v := ?qv4) (fun _ => trivial) (by rfl) (by kernel_rfl) (.inl ⟨by kernel_rfl, fun w1 _ => ?qy4⟩) ?_
    case qy4 => (go_simp; try first | rfl | (rw [if_pos (by omega)]) | (rw [if_neg (by omega)]) | (rw [if_neg (by simp; omega)]) | (split <;> first | (exfalso; omega) | rfl))
    refine takeP 6 (v := ?qv6) (fun _ => trivial) (by rfl) (by kernel_rfl) (.inl ⟨by kernel_rfl, fun w1 _ => ?qy6⟩) ?_
    case qy6 => (go_simp; try first | rfl | (rw [if_pos (by omega)]) | (rw [if_neg (by omega)]) | (rw [if_neg (by simp; omega)]) | (split <;> first | (exfalso; omega) | rfl))
    refine takeP 7 (v := ?qv7) (fun _ => trivial) (by rfl) (by kernel_rfl) (.inl ⟨by kernel_rfl, fun w1 _ => ?qy7⟩) ?_
    case qy7 => (go_simp; try first | rfl | (rw [if_pos (by omega)]) | (rw [if_neg (by omega)]) | (rw [if_neg (by simp; omega)]) | (split <;> first | (exfalso; omega) | rfl))
    refine takeP 8 (v := ?qv8) (fun _ => trivial) (by rfl) (by kernel_rfl) (.inl ⟨by kernel_rfl, fun w1 _ => ?qy8⟩) ?_
    case qy8 => (go_simp; try first | rfl | (rw [if_pos (by omega)]) | (rw [if_neg (by omega)]) | (rw [if_neg (by simp; omega)]) | (split <;> first | (exfalso; omega) | rfl))
    refine twoH2 1 11 (by rfl) (by rfl) (by kernel_rfl) (fun K hK => ?_) (fun K hK => ?_)
    · gi_wp2_with fail
      obtain ⟨w21, hw21⟩ : ∃ W, w6.alloc (.cells #[] 84) = W := ⟨_, rfl⟩
      rw [hw21]
      have hb21 : Below Wy.heap.size Wy w21 := by rw [← hw21]; exact hb6.alloc hb6.size _
      have hrow21 : Row (Own Wy) 84 7 (.slice (some ⟨w6.heap.size, 0, none⟩) 0 0) 0 [] w21 := by rw [← hw21]; exact (row_emptyR w6).mono (fun b hb => Nat.le_trans hb6.size hb)
      refine hK _ _ (fun h => absurd h (by decide)) ?_
      clear hK K hw21
      refine twoH2 5 11 (by rfl) (by rfl) (by kernel_rfl) (fun K hK => ?_) (fun K hK => ?_)
      · gi_wp2_with (gi_at_builtin; refine append_recs (Own Wy) rfl _ _ _ Try.underlying24 rfl _ 0 [] (by rfl) hrow21 _ (LD.map (·.1)) (by rfl) (HTA.out _ hb21) (by have := HLN.out; simp; omega) (hb21.size) ?_; intro v22 w22 hrx22 hgr22)
        have hrow22 : Row (Own Wy) 84 7 v22 LD.length (LD.flatMap encE) w22 := by simpa [encP_map] using hrx22
        have hb22 : Below Wy.heap.size Wy w22 := hb21.grown hgr22 hb21.size (fun b hb => hrow21.2 b hb)
        refine hK _ _ (fun h => absurd h (by decide)) ?_
        clear hK K hrx22 hgr22
        refine twoH2 9 11 (by rfl) (by rfl) (by kernel_rfl) (fun K hK => ?_) (fun K hK => ?_)
        · gi_wp2_with (gi_at_builtin; refine append_recs (Own Wy) rfl _ _ _ Try.underlying24 rfl _ LD.length (LD.flatMap encE) (by rfl) hrow22 _ (LT.map (·.1)) (by rfl) (HTB.out _ hb22) (by have := HLN.out; simp; omega) (hb22.size) ?_; intro v23 w23 hrx23 hgr23)
          have hrow23 : Row (Own Wy) 84 7 v23 (LD ++ LT).length ((LD ++ LT).flatMap encE) w23 := by simpa [encP_map] using hrx23
          have hb23 : Below Wy.heap.size Wy w23 := hb22.grown hgr23 hb22.size (fun b hb => hrow22.2 b hb)
          refine hK _ _ (fun h => absurd h (by decide)) ?_
          clear hK K hrx23 hgr23
          refine twoH2 10 11 (by rfl) (by rfl) (by kernel_rfl) (fun K hK => ?_) (fun K hK => ?_)
          · have hbx24 := below5 HB35.out hb23
            have HRR24 := Lib.hid (hrow23.recs hbx24)
            obtain ⟨ox24, cx24, rfl⟩ := hrow23.form
            have hl24 : (LD ++ LT).length ≤ 60 := by have := HLN.out; simp; omega
            have HNW24 := Lib.hid (zNew2_any hbx24 oo l0.length co _ (LD ++ LT) HRR24.out (by omega))
            rw [List.length_append] at HNW24
            gi_wp2_with fail
            refine (callsIn_wide.2 HNW24.out).mono ?_
            rintro e w24 ⟨o6, c6, l6, rfl, hfr, hr6, hp6, hn6, b24⟩
            have hb24 : Below Wy.heap.size Wy w24 := below5 hb23 b24
            gi_wp2_with fail
            refine hK _ _ (fun h => absurd h (by decide)) ?_
            clear hK K HNW24
            refine oneH 11 (by rfl) (by kernel_rfl) (fun K hK => ?_)
            gi_wp2_with fail
            obtain ⟨w25, hw25⟩ : ∃ W, w24.alloc (.cells #[.slice none 0 0, .slice none 0 0] 30) = W := ⟨_, rfl⟩
            rw [hw25]
            have hb25 : Below Wy.heap.size Wy w25 := by rw [← hw25]; exact hb24.alloc hb24.size _
            obtain ⟨g25, hg25⟩ : ∃ g, w24.heap.size = g := ⟨_, rfl⟩
            have hk25 : Blk g25 #[.slice none 0 0, .slice none 0 0] 30 w25 := by rw [← hw25, ← hg25]; exact Blk.new _ _ _
            have hgl : Wy.heap.size ≤ g25 := by rw [← hg25]; exact hb24.size
            have hr25 : RecsRd (.slice o6 l6.length c6) (l6.map (·.1)) w25 := by rw [← hw25]; exact hr6.kept ((Below.refl _ _).alloc (Nat.le_refl _) _)
            rw [hg25]
            refine hK _ _ (fun h => absurd h (by decide)) ?_
            clear hK K
            have c0 : w25.cell? ⟨g25, 0, none⟩ = some _ := hk25.cell 0
            have c1' : w25.cell? ⟨g25, 1, none⟩ = some _ := hk25.cell 1
            have fz0 := hk25.frozen 0
            have fz1 := hk25.frozen 1
            refine oneH 12 (by rfl) (by kernel_rfl) (fun K hK => ?_)
            gi_wp2_with fail
            refine hK _ _ (fun h => absurd h (by decide)) ?_
            clear hK K
            refine doneH (by kernel_rfl) ?_
            have hbz : Below Wy.heap.size Wy ((w25.setCell ⟨g25, 0, none⟩ (.slice oo l0.length co)).setCell ⟨g25, 1, none⟩ (.slice o6 l6.length c6)) := (hb25.setCell (p := ⟨g25, 0, none⟩) hgl _).setCell (p := ⟨g25, 1, none⟩) hgl _
            have hrz : RecsRd (.slice o6 l6.length c6) (l6.map (·.1)) ((w25.setCell ⟨g25, 0, none⟩ (.slice oo l0.length co)).setCell ⟨g25, 1, none⟩ (.slice o6 l6.length c6)) := hr6.kept ((((show Below w24.heap.size w24 w25 from by rw [← hw25]; exact (Below.refl _ _).alloc (Nat.le_refl _) _)).setCell (p := ⟨g25, 0, none⟩) (Nat.le_of_eq hg25) _).setCell (p := ⟨g25, 1, none⟩) (Nat.le_of_eq hg25) _)
            exact ⟨rfl, g25, l6, o6, c6, _, _, _, _, _, _, rfl, hbz, hgl, (hk25.setAt 0 _).setAt 1 _, hrz, by rw [hp6, HLD.out.1, HLD.out.2], Nat.le_trans hn6 (by simpa using hl24)⟩
          · gi_wp2_with fail
            obtain ⟨w27, hw27⟩ : ∃ W, w23.alloc (.cells #[.slice none 0 0, .slice none 0 0] 30) = W := ⟨_, rfl⟩
            rw [hw27]
            have hb27 : Below Wy.heap.size Wy w27 := by rw [← hw27]; exact hb23.alloc hb23.size _
            obtain ⟨g27, hg27⟩ : ∃ g, w23.heap.size = g := ⟨_, rfl⟩
            have hk27 : Blk g27 #[.slice none 0 0, .slice none 0 0] 30 w27 := by rw [← hw27, ← hg27]; exact Blk.new _ _ _
            have hgl : Wy.heap.size ≤ g27 := by rw [← hg27]; exact hb23.size
            have hrow27 := (show Row (fun b => Wy.heap.size ≤ b ∧ b ≠ g27) 84 7 _ _ _ w23 from ⟨hrow23.1, fun b hb => ⟨hrow23.2 b hb, by have := hrow23.ltH hb; omega⟩⟩).alloc (.cells #[.slice none 0 0, .slice none 0 0] 30)
            rw [hw27] at hrow27
            rw [hg27]
            refine hK _ _ (fun h => absurd h (by decide)) ?_
            clear hK K hw27
            refine oneH 10 (by rfl) (by kernel_rfl) (fun K hK => ?_)
            have hbx28 := below5 HB35.out hb27
            have HRR28 := Lib.hid (hrow27.recs hbx28)
            obtain ⟨ox28, cx28, rfl⟩ := hrow27.form
            have hl28 : (LD ++ LT).length ≤ 60 := by have := HLN.out; simp; omega
            have HNW28 := Lib.hid (zNew2_any hbx28 oo l0.length co _ (LD ++ LT) HRR28.out (by omega))
            rw [List.length_append] at HNW28
            gi_wp2_with fail
            refine (callsIn_wide.2 HNW28.out).mono ?_
            rintro e w28 ⟨o6, c6, l6, rfl, hfr, hr6, hp6, hn6, b28⟩
            have hb28 : Below Wy.heap.size Wy w28 := below5 hb27 b28
            have hk28 : Blk g27 #[.slice none 0 0, .slice none 0 0] 30 w28 := hk27.below b28
            have hfg : ∀ a, o6 = some a → a.block ≠ g27 := fun a ha => by have h1 := hfr a ha; have h2 := hk27.lt; omega
            gi_wp2_with fail
            refine hK _ _ (fun h => absurd h (by decide)) ?_
            clear hK K HNW28
            have c0 : w28.cell? ⟨g27, 0, none⟩ = some _ := hk28.cell 0
            have c1' : w28.cell? ⟨g27, 1, none⟩ = some _ := hk28.cell 1
            have fz0 := hk28.frozen 0
            have fz1 := hk28.frozen 1
            refine oneH 12 (by rfl) (by kernel_rfl) (fun K hK => ?_)
            gi_wp2_with fail
            refine hK _ _ (fun h => absurd h (by decide)) ?_
            clear hK K
            refine doneH (by kernel_rfl) ?_
            have hbz : Below Wy.heap.size Wy ((w28.setCell ⟨g27, 0, none⟩ (.slice oo l0.length co)).setCell ⟨g27, 1, none⟩ (.slice o6 l6.length c6)) := (hb28.setCell (p := ⟨g27, 0, none⟩) hgl _).setCell (p := ⟨g27, 1, none⟩) hgl _
            have hba := hb28.setCell (p := ⟨g27, 0, none⟩) hgl (.slice oo l0.length co)
            have hrz := (hr6.set' (b := g27) (i := 0) hfg (.slice oo l0.length co) (below5 HB35.out hba)).set' (b := g27) (i := 1) hfg (.slice o6 l6.length c6) (below5 HB35.out hbz)
            exact ⟨rfl, g27, l6, o6, c6, _, _, _, _, _, _, rfl, hbz, hgl, (hk28.setAt 0 _).setAt 1 _, hrz, by rw [hp6, HLD.out.1, HLD.out.2], Nat.le_trans hn6 (by simpa using hl28)⟩
        · gi_wp2_with fail
          obtain ⟨w30, hw30⟩ : ∃ W, w22.alloc (.cells #[.slice none 0 0, .slice none 0 0] 30) = W := ⟨_, rfl⟩
          rw [hw30]
          have hb30 : Below Wy.heap.size Wy w30 := by rw [← hw30]; exact hb22.alloc hb22.size _
          obtain ⟨g30, hg30⟩ : ∃ g, w22.heap.size = g := ⟨_, rfl⟩
          have hk30 : Blk g30 #[.slice none 0 0, .slice none 0 0] 30 w30 := by rw [← hw30, ← hg30]; exact Blk.new _ _ _
          have hgl : Wy.heap.size ≤ g30 := by rw [← hg30]; exact hb22.size
          have hrow30 := (show Row (fun b => Wy.heap.size ≤ b ∧ b ≠ g30) 84 7 _ _ _ w22 from ⟨hrow22.1, fun b hb => ⟨hrow22.2 b hb, by have := hrow22.ltH hb; omega⟩⟩).alloc (.cells #[.slice none 0 0, .slice none 0 0] 30)
          rw [hw30] at hrow30
          rw [hg30]
          refine hK _ _ (fun h => absurd h (by decide)) ?_
          clear hK K hw30
          refine oneH 9 (by rfl) (by kernel_rfl) (fun K hK => ?_)
          gi_wp2_with (gi_at_builtin; refine append_recs (fun b => Wy.heap.size ≤ b ∧ b ≠ g30) rfl _ _ _ Try.underlying24 rfl _ LD.length (LD.flatMap encE) (by rfl) hrow30 _ (LT.map (·.1)) (by rfl) (HTB.out _ hb30) (by have := HLN.out; simp; omega) (⟨hb30.size, by have := hk30.lt; omega⟩) ?_; intro v31 w31 hrx31 hgr31)
          have hrow31 : Row (fun b => Wy.heap.size ≤ b ∧ b ≠ g30) 84 7 v31 (LD ++ LT).length ((LD ++ LT).flatMap encE) w31 := by simpa [encP_map] using hrx31
          have hb31 : Below Wy.heap.size Wy w31 := hb30.grown hgr31 hb30.size (fun b hb => (hrow30.2 b hb).1)
          have hk31 : Blk g30 #[.slice none 0 0, .slice none 0 0] 30 w31 := hk30.grown' hgr31 (fun b hb => (hrow30.2 b hb).2)
          refine hK _ _ (fun h => absurd h (by decide)) ?_
          clear hK K hrx31 hgr31
          refine oneH 10 (by rfl) (by kernel_rfl) (fun K hK => ?_)
          have hbx32 := below5 HB35.out hb31
          have HRR32 := Lib.hid (hrow31.recs hbx32)
          obtain ⟨ox32, cx32, rfl⟩ := hrow31.form
          have hl32 : (LD ++ LT).length ≤ 60 := by have := HLN.out; simp; omega
          have HNW32 := Lib.hid (zNew2_any hbx32 oo l0.length co _ (LD ++ LT) HRR32.out (by omega))
          rw [List.length_append] at HNW32
          gi_wp2_with fail
          refine (callsIn_wide.2 HNW32.out).mono ?_
          rintro e w32 ⟨o6, c6, l6, rfl, hfr, hr6, hp6, hn6, b32⟩
          have hb32 : Below Wy.heap.size Wy w32 := below5 hb31 b32
          have hk32 : Blk g30 #[.slice none 0 0, .slice none 0 0] 30 w32 := hk31.below b32
          have hfg : ∀ a, o6 = some a → a.block ≠ g30 := fun a ha => by have h1 := hfr a ha; have h2 := hk31.lt; omega
          gi_wp2_with fail
          refine hK _ _ (fun h => absurd h (by decide)) ?_
          clear hK K HNW32
          have c0 : w32.cell? ⟨g30, 0, none⟩ = some _ := hk32.cell 0
          have c1' : w32.cell? ⟨g30, 1, none⟩ = some _ := hk32.cell 1
          have fz0 := hk32.frozen 0
          have fz1 := hk32.frozen 1
          refine oneH 12 (by rfl) (by kernel_rfl) (fun K hK => ?_)
          gi_wp2_with fail
          refine hK _ _ (fun h => absurd h (by decide)) ?_
          clear hK K
          refine doneH (by kernel_rfl) ?_
          have hbz : Below Wy.heap.size Wy ((w32.setCell ⟨g30, 0, none⟩ (.slice oo l0.length co)).setCell ⟨g30, 1, none⟩ (.slice o6 l6.length c6)) := (hb32.setCell (p := ⟨g30, 0, none⟩) hgl _).setCell (p := ⟨g30, 1, none⟩) hgl _
          have hba := hb32.setCell (p := ⟨g30, 0, none⟩) hgl (.slice oo l0.length co)
          have hrz := (hr6.set' (b := g30) (i := 0) hfg (.slice oo l0.length co) (below5 HB35.out hba)).set' (b := g30) (i := 1) hfg (.slice o6 l6.length c6) (below5 HB35.out hbz)
          exact ⟨rfl, g30, l6, o6, c6, _, _, _, _, _, _, rfl, hbz, hgl, (hk32.setAt 0 _).setAt 1 _, hrz, by rw [hp6, HLD.out.1, HLD.out.2], Nat.le_trans hn6 (by simpa using hl32)⟩
      · gi_wp2_with fail
        obtain ⟨w34, hw34⟩ : ∃ W, w21.alloc (.cells #[.slice none 0 0, .slice none 0 0] 30) = W := ⟨_, rfl⟩
        rw [hw34]
        have hb34 : Below Wy.heap.size Wy w34 := by rw [← hw34]; exact hb21.alloc hb21.size _
        obtain ⟨g34, hg34⟩ : ∃ g, w21.heap.size = g := ⟨_, rfl⟩
        have hk34 : Blk g34 #[.slice none 0 0, .slice none 0 0] 30 w34 := by rw [← hw34, ← hg34]; exact Blk.new _ _ _
        have hgl : Wy.heap.size ≤ g34 := by rw [← hg34]; exact hb21.size
        have hrow34 := (show Row (fun b => Wy.heap.size ≤ b ∧ b ≠ g34) 84 7 _ _ _ w21 from ⟨hrow21.1, fun b hb => ⟨hrow21.2 b hb, by have := hrow21.ltH hb; omega⟩⟩).alloc (.cells #[.slice none 0 0, .slice none 0 0] 30)
        rw [hw34] at hrow34
        rw [hg34]
        refine hK _ _ (fun h => absurd h (by decide)) ?_
        clear hK K hw34
        refine oneH 5 (by rfl) (by kernel_rfl) (fun K hK => ?_)
        gi_wp2_with (gi_at_builtin; refine append_recs (fun b => Wy.heap.size ≤ b ∧ b ≠ g34) rfl _ _ _ Try.underlying24 rfl _ 0 [] (by rfl) hrow34 _ (LD.map (·.1)) (by rfl) (HTA.out _ hb34) (by have := HLN.out; simp; omega) (⟨hb34.size, by have := hk34.lt; omega⟩) ?_; intro v35 w35 hrx35 hgr35)
        have hrow35 : Row (fun b => Wy.heap.size ≤ b ∧ b ≠ g34) 84 7 v35 LD.length (LD.flatMap encE) w35 := by simpa [encP_map] using hrx35
        have hb35 : Below Wy.heap.size Wy w35 := hb34.grown hgr35 hb34.size (fun b hb => (hrow34.2 b hb).1)
        have hk35 : Blk g34 #[.slice none 0 0, .slice none 0 0] 30 w35 := hk34.grown' hgr35 (fun b hb => (hrow34.2 b hb).2)
        refine hK _ _ (fun h => absurd h (by decide)) ?_
        clear hK K hrx35 hgr35
        refine oneH 9 (by rfl) (by kernel_rfl) (fun K hK => ?_)
        gi_wp2_with (gi_at_builtin; refine append_recs (fun b => Wy.heap.size ≤ b ∧ b ≠ g34) rfl _ _ _ Try.underlying24 rfl _ LD.length (LD.flatMap encE) (by rfl) hrow35 _ (LT.map (·.1)) (by rfl) (HTB.out _ hb35) (by have := HLN.out; simp; omega) (⟨hb35.size, by have := hk35.lt; omega⟩) ?_; intro v36 w36 hrx36 hgr36)
        have hrow36 : Row (fun b => Wy.heap.size ≤ b ∧ b ≠ g34) 84 7 v36 (LD ++ LT).length ((LD ++ LT).flatMap encE) w36 := by simpa [encP_map] using hrx36
        have hb36 : Below Wy.heap.size Wy w36 := hb35.grown hgr36 hb35.size (fun b hb => (hrow35.2 b hb).1)
        have hk36 : Blk g34 #[.slice none 0 0, .slice none 0 0] 30 w36 := hk35.grown' hgr36 (fun b hb => (hrow35.2 b hb).2)
        refine hK _ _ (fun h => absurd h (by decide)) ?_
        clear hK K hrx36 hgr36
        refine oneH 10 (by rfl) (by kernel_rfl) (fun K hK => ?_)
        have hbx37 := below5 HB35.out hb36
        have HRR37 := Lib.hid (hrow36.recs hbx37)
        obtain ⟨ox37, cx37, rfl⟩ := hrow36.form
        have hl37 : (LD ++ LT).length ≤ 60 := by have := HLN.out; simp; omega
        have HNW37 := Lib.hid (zNew2_any hbx37 oo l0.length co _ (LD ++ LT) HRR37.out (by omega))
        rw [List.length_append] at HNW37
        gi_wp2_with fail
        refine (callsIn_wide.2 HNW37.out).mono ?_
        rintro e w37 ⟨o6, c6, l6, rfl, hfr, hr6, hp6, hn6, b37⟩
        have hb37 : Below Wy.heap.size Wy w37 := below5 hb36 b37
        have hk37 : Blk g34 #[.slice none 0 0, .slice none 0 0] 30 w37 := hk36.below b37
        have hfg : ∀ a, o6 = some a → a.block ≠ g34 := fun a ha => by have h1 := hfr a ha; have h2 := hk36.lt; omega
        gi_wp2_with fail
        refine hK _ _ (fun h => absurd h (by decide)) ?_
        clear hK K HNW37
        have c0 : w37.cell? ⟨g34, 0, none⟩ = some _ := hk37.cell 0
        have c1' : w37.cell? ⟨g34, 1, none⟩ = some _ := hk37.cell 1
        have fz0 := hk37.frozen 0
        have fz1 := hk37.frozen 1
        refine oneH 12 (by rfl) (by kernel_rfl) (fun K hK => ?_)
        gi_wp2_with fail
        refine hK _ _ (fun h => absurd h (by decide)) ?_
        clear hK K
        refine doneH (by kernel_rfl) ?_
        have hbz : Below Wy.heap.size Wy ((w37.setCell ⟨g34, 0, none⟩ (.slice oo l0.length co)).setCell ⟨g34, 1, none⟩ (.slice o6 l6.length c6)) := (hb37.setCell (p := ⟨g34, 0, none⟩) hgl _).setCell (p := ⟨g34, 1, none⟩) hgl _
        have hba := hb37.setCell (p := ⟨g34, 0, none⟩) hgl (.slice oo l0.length co)
        have hrz := (hr6.set' (b := g34) (i := 0) hfg (.slice oo l0.length co) (below5 HB35.out hba)).set' (b := g34) (i := 1) hfg (.slice o6 l6.length c6) (below5 HB35.out hbz)
        exact ⟨rfl, g34, l6, o6, c6, _, _, _, _, _, _, rfl, hbz, hgl, (hk37.setAt 0 _).setAt 1 _, hrz, by rw [hp6, HLD.out.1, HLD.out.2], Nat.le_trans hn6 (by simpa using hl37)⟩
    · gi_wp2_with fail
      obtain ⟨w39, hw39⟩ : ∃ W, w6.alloc (.cells #[.slice none 0 0, .slice none 0 0] 30) = W := ⟨_, rfl⟩
      rw [hw39]
      have hb39 : Below Wy.heap.size Wy w39 := by rw [← hw39]; exact hb6.alloc hb6.size _
      obtain ⟨g39, hg39⟩ : ∃ g, w6.heap.size = g := ⟨_, rfl⟩
      have hk39 : Blk g39 #[.slice none 0 0, .slice none 0 0] 30 w39 := by rw [← hw39, ← hg39]; exact Blk.new _ _ _
      have hgl : Wy.heap.size ≤ g39 := by rw [← hg39]; exact hb6.size
      rw [hg39]
      refine hK _ _ (fun h => absurd h (by decide)) ?_
      clear hK K hw39
      refine oneH 1 (by rfl) (by kernel_rfl) (fun K hK => ?_)
      gi_wp2_with fail
      obtain ⟨w40, hw40⟩ : ∃ W, w39.alloc (.cells #[] 84) = W := ⟨_, rfl⟩
      rw [hw40]
      have hb40 : Below Wy.heap.size Wy w40 := by rw [← hw40]; exact hb39.alloc hb39.size _
      have hrow40 : Row (fun b => Wy.heap.size ≤ b ∧ b ≠ g39) 84 7 (.slice (some ⟨w39.heap.size, 0, none⟩) 0 0) 0 [] w40 := by rw [← hw40]; exact (row_emptyR w39).mono (fun b hb => ⟨Nat.le_trans hb39.size hb, by have h1 := hk39.lt; have h2 : w39.heap.size ≤ b := hb; omega⟩)
      have hk40 : Blk g39 #[.slice none 0 0, .slice none 0 0] 30 w40 := by rw [← hw40]; exact hk39.alloc _
      refine hK _ _ (fun h => absurd h (by decide)) ?_
      clear hK K hw40
      refine oneH 5 (by rfl) (by kernel_rfl) (fun K hK => ?_)
      gi_wp2_with (gi_at_builtin; refine append_recs (fun b => Wy.heap.size ≤ b ∧ b ≠ g39) rfl _ _ _ Try.underlying24 rfl _ 0 [] (by rfl) hrow40 _ (LD.map (·.1)) (by rfl) (HTA.out _ hb40) (by have := HLN.out; simp; omega) (⟨hb40.size, by have := hk40.lt; omega⟩) ?_; intro v41 w41 hrx41 hgr41)
      have hrow41 : Row (fun b => Wy.heap.size ≤ b ∧ b ≠ g39) 84 7 v41 LD.length (LD.flatMap encE) w41 := by simpa [encP_map] using hrx41
      have hb41 : Below Wy.heap.size Wy w41 := hb40.grown hgr41 hb40.size (fun b hb => (hrow40.2 b hb).1)
      have hk41 : Blk g39 #[.slice none 0 0, .slice none 0 0] 30 w41 := hk40.grown' hgr41 (fun b hb => (hrow40.2 b hb).2)
      refine hK _ _ (fun h => absurd h (by decide)) ?_
      clear hK K hrx41 hgr41
      refine oneH 9 (by rfl) (by kernel_rfl) (fun K hK => ?_)
      gi_wp2_with (gi_at_builtin; refine append_recs (fun b => Wy.heap.size ≤ b ∧ b ≠ g39) rfl _ _ _ Try.underlying24 rfl _ LD.length (LD.flatMap encE) (by rfl) hrow41 _ (LT.map (·.1)) (by rfl) (HTB.out _ hb41) (by have := HLN.out; simp; omega) (⟨hb41.size, by have := hk41.lt; omega⟩) ?_; intro v42 w42 hrx42 hgr42)
      have hrow42 : Row (fun b => Wy.heap.size ≤ b ∧ b ≠ g39) 84 7 v42 (LD ++ LT).length ((LD ++ LT).flatMap encE) w42 := by simpa [encP_map] using hrx42
      have hb42 : Below Wy.heap.size Wy w42 := hb41.grown hgr42 hb41.size (fun b hb => (hrow41.2 b hb).1)
      have hk42 : Blk g39 #[.slice none 0 0, .slice none 0 0] 30 w42 := hk41.grown' hgr42 (fun b hb => (hrow41.2 b hb).2)
      refine hK _ _ (fun h => absurd h (by decide)) ?_
      clear hK K hrx42 hgr42
      refine oneH 10 (by rfl) (by kernel_rfl) (fun K hK => ?_)
      have hbx43 := below5 HB35.out hb42
      have HRR43 := Lib.hid (hrow42.recs hbx43)
      obtain ⟨ox43, cx43, rfl⟩ := hrow42.form
      have hl43 : (LD ++ LT).length ≤ 60 := by have := HLN.out; simp; omega
      have HNW43 := Lib.hid (zNew2_any hbx43 oo l0.length co _ (LD ++ LT) HRR43.out (by omega))
      rw [List.length_append] at HNW43
      gi_wp2_with fail
      refine (callsIn_wide.2 HNW43.out).mono ?_
      rintro e w43 ⟨o6, c6, l6, rfl, hfr, hr6, hp6, hn6, b43⟩
      have hb43 : Below Wy.heap.size Wy w43 := below5 hb42 b43
      have hk43 : Blk g39 #[.slice none 0 0, .slice none 0 0] 30 w43 := hk42.below b43
      have hfg : ∀ a, o6 = some a → a.block ≠ g39 := fun a ha => by have h1 := hfr a ha; have h2 := hk42.lt; omega
      gi_wp2_with fail
      refine hK _ _ (fun h => absurd h (by decide)) ?_
      clear hK K HNW43
      have c0 : w43.cell? ⟨g39, 0, none⟩ = some _ := hk43.cell 0
      have c1' : w43.cell? ⟨g39, 1, none⟩ = some _ := hk43.cell 1
      have fz0 := hk43.frozen 0
      have fz1 := hk43.frozen 1
      refine oneH 12 (by rfl) (by kernel_rfl) (fun K hK => ?_)
      gi_wp2_with fail
      refine hK _ _ (fun h => absurd h (by decide)) ?_
      clear hK K
      refine doneH (by kernel_rfl) ?_
      have hbz : Below Wy.heap.size Wy ((w43.setCell ⟨g39, 0, none⟩ (.slice oo l0.length co)).setCell ⟨g39, 1, none⟩ (.slice o6 l6.length c6)) := (hb43.setCell (p := ⟨g39, 0, none⟩) hgl _).setCell (p := ⟨g39, 1, none⟩) hgl _
      have hba := hb43.setCell (p := ⟨g39, 0, none⟩) hgl (.slice oo l0.length co)
      have hrz := (hr6.set' (b := g39) (i := 0) hfg (.slice oo l0.length co) (below5 HB35.out hba)).set' (b := g39) (i := 1) hfg (.slice o6 l6.length c6) (below5 HB35.out hbz)
      exact ⟨rfl, g39, l6, o6, c6, _, _, _, _, _, _, rfl, hbz, hgl, (hk43.setAt 0 _).setAt 1 _, hrz, by rw [hp6, HLD.out.1, HLD.out.2], Nat.le_trans hn6 (by simpa using hl43)⟩
  · rintro e a' w' ⟨rfl, g, l6, o6, c6, u38, u41, u42, u45, u46, u47, rfl, hbq, hgq, hkq, hrq, hpq, hnq⟩
    have HQ1 := Lib.hid (show Rc.sameRow (plE l6) (plE l5) = true by
      rw [hpq, HP5.out]
      refine Rc.canon_mem fun x => ?_
      unfold plE
      simp only [List.map_append, List.mem_append]
      conv => rhs; rw [← List.take_append_drop k L]
      simp only [List.map_append, List.mem_append]
      exact Or.comm)
    have HKQ := Lib.hid hkq
    have HRQ := Lib.hid hrq
    have HGQ := Lib.hid hgq
    have HBQ := Lib.hid hbq
    have nq : l6.length ≤ 1000 := by omega
    have z0 : w'.cell? ⟨w5.heap.size, 0, none⟩ = some _ := (HZ.out.below hbq).cell 0
    have z1 : w'.cell? ⟨w5.heap.size, 1, none⟩ = some _ := (HZ.out.below hbq).cell 1
    have HNX := Lib.hid (zNew2_any (w := w3) (below5 HB35.out hbq) oo l0.length co (.slice o5 l5.length c5) l5 (HRY.out.kept hbq) na)
    clear hbq hgq hkq hrq hpq hnq x0a x0b HTA HTB
    gi_wp2_with fail
    refine (callsIn_wide.2 HNX.out).mono ?_
    rintro e w7 ⟨o7, c7, l7, rfl, _, hr7, hp7, hn7, b7⟩
    have HQ2 := Lib.hid (show Rc.sameRow (plE l7) (plE l5) = true by rw [hp7, HP5.out]; exact Rc.canon_again _)
    obtain ⟨gx, hgx⟩ : ∃ g, w7.heap.size = g := ⟨_, rfl⟩
    obtain ⟨Wu, hWu⟩ : ∃ W, w7.alloc (.cells #[.slice none 0 0, .slice none 0 0] 30) = W := ⟨_, rfl⟩
    have kx : Blk gx #[.slice none 0 0, .slice none 0 0] 30 Wu := by rw [← hWu, ← hgx]; exact Blk.new w7 _ _
    have g0 : Wu.cell? ⟨gx, 0, none⟩ = some _ := kx.cell 0
    have g1 : Wu.cell? ⟨gx, 1, none⟩ = some _ := kx.cell 1
    have f0 := kx.frozen 0
    have f1 := kx.frozen 1
    obtain ⟨Wv, hWv⟩ : ∃ W, (Wu.setCell ⟨gx, 0, none⟩ (.slice oo l0.length co)).setCell ⟨gx, 1, none⟩ (.slice o7 l7.length c7) = W := ⟨_, rfl⟩
    have ky : Blk gx #[.slice oo l0.length co, .slice o7 l7.length c7] 30 Wv := by rw [← hWv]; exact (kx.setAt 0 _).setAt 1 _
    have bwv : Below w7.heap.size w7 Wv := by rw [← hWv, ← hWu]; exact (((Below.refl _ _).alloc (Nat.le_refl _) _).setCell (p := ⟨gx, 0, none⟩) (Nat.le_of_eq hgx) _).setCell (p := ⟨gx, 1, none⟩) (Nat.le_of_eq hgx) _
    have HXV := Lib.hid ky
    have HBV' := Lib.hid (below5 b7 bwv)
    have HBV := Lib.hid (below5 HBQ.out HBV'.out)
    have HR7 := Lib.hid (hr7.kept bwv)
    have HR6 := Lib.hid (HRQ.out.kept HBV'.out)
    have HR5 := Lib.hid (HRY.out.kept HBV.out)
    have HZV := Lib.hid (HZ.out.below HBV.out)
    have HYV := Lib.hid (HKQ.out.below HBV'.out)
    have na7 : l7.length ≤ 1000 := Nat.le_trans hn7 na
    have HEW := Lib.hid (Zn.wher_same HQ1.out l0 l3)
    have HEX := Lib.hid (Zn.exi_same HQ1.out l0 l3)
    have hMK : Hid (∀ W', Below Wv.heap.size Wv W' → (fun W => W.cell? ⟨gx, 1, none⟩ = some (.slice o7 l7.length c7) ∧ W.cell? ⟨w5.heap.size, 0, none⟩ = some (.slice oo l0.length co) ∧ W.cell? ⟨w5.heap.size, 1, none⟩ = some (.slice o5 l5.length c5) ∧ W.cell? ⟨g, 0, none⟩ = some (.slice oo l0.length co) ∧ W.cell? ⟨g, 1, none⟩ = some (.slice o6 l6.length c6)) W') := fun W' hb => ⟨(HXV.out.below hb).cell 1, (HZV.out.below hb).cell 0, (HZV.out.below hb).cell 1, (HYV.out.below hb).cell 0, (HYV.out.below hb).cell 1⟩
    have HSA := Lib.hid (fun (W : World) (hb : Below Wv.heap.size Wv W) => (show Calls Try.prog 18 #[.slice o7 l7.length c7, .slice o5 l5.length c5] W (Gives (.bool true) W) from by
      have hw := below5 (below5 HB35.out HBV.out) hb
      have h := sameRow_any (.slice o7 l7.length c7) (.slice o5 l5.length c5) (l7.map (El.up hw)) (l5.map (El.up hw)) (by rw [up_fst]; exact HR7.out.kept hb) (by rw [up_fst]; exact HR5.out.kept hb) (by simpa using na7) (by simpa using na)
      rw [up_pl, up_pl, HQ2.out] at h
      exact h))
    have HSB := Lib.hid (fun (W : World) (hb : Below Wv.heap.size Wv W) => (show Calls Try.prog 18 #[.slice o6 l6.length c6, .slice o5 l5.length c5] W (Gives (.bool true) W) from by
      have hw := below5 (below5 HB35.out HBV.out) hb
      have h := sameRow_any (.slice o6 l6.length c6) (.slice o5 l5.length c5) (l6.map (El.up hw)) (l5.map (El.up hw)) (by rw [up_fst]; exact HR6.out.kept hb) (by rw [up_fst]; exact HR5.out.kept hb) (by simpa using nq) (by simpa using na)
      rw [up_pl, up_pl, HQ1.out] at h
      exact h))
    obtain ⟨K5, hK5⟩ : ∃ K, plE l5 = K := ⟨_, rfl⟩
    obtain ⟨wv, hwv⟩ : ∃ v, Zn.wher l0 K5 l3 = v := ⟨_, rfl⟩
    obtain ⟨ev, hev⟩ : ∃ v, Zn.exi l0 K5 l3 = v := ⟨_, rfl⟩
    have HWY := Lib.hid (fun (W : World) (hb : Below Wv.heap.size Wv W) => (show Calls Try.prog 15 #[.agg #[.slice oo l0.length co, .slice o6 l6.length c6], .slice on l3.length cn] W (Gives (.int .i64 wv) W) from by
      have h := zWhere_any (w0 := W) (.slice oo l0.length co) (.slice o6 l6.length c6) (.slice on l3.length cn) l6 l0 l3 (below5 (below5 HB35.out HBV.out) hb) (HR6.out.kept hb) nq (HOY.out.below (below5 HBV.out hb)) NBO.out (HNY.out.below (below5 HBV.out hb)) NBN.out
      rw [HEW.out, hK5, hwv] at h
      exact h))
    have HWZ := Lib.hid (fun (W : World) (hb : Below Wv.heap.size Wv W) => (show Calls Try.prog 15 #[.agg #[.slice oo l0.length co, .slice o5 l5.length c5], .slice on l3.length cn] W (Gives (.int .i64 wv) W) from by
      have h := zWhere_any (w0 := W) (.slice oo l0.length co) (.slice o5 l5.length c5) (.slice on l3.length cn) l5 l0 l3 (below5 (below5 HB35.out HBV.out) hb) (HR5.out.kept hb) na (HOY.out.below (below5 HBV.out hb)) NBO.out (HNY.out.below (below5 HBV.out hb)) NBN.out
      rw [hK5, hwv] at h
      exact h))
    have HEY := Lib.hid (fun (W : World) (hb : Below Wv.heap.size Wv W) => (show Calls Try.prog 16 #[.agg #[.slice oo l0.length co, .slice o6 l6.length c6], .slice on l3.length cn] W (Gives (.bool ev) W) from by
      have h := zExists_any (w0 := W) (.slice oo l0.length co) (.slice o6 l6.length c6) (.slice on l3.length cn) l6 l0 l3 (below5 (below5 HB35.out HBV.out) hb) (HR6.out.kept hb) nq (HOY.out.below (below5 HBV.out hb)) NBO.out (HNY.out.below (below5 HBV.out hb)) NBN.out
      rw [HEX.out, hK5, hev] at h
      exact h))
    have HEZ := Lib.hid (fun (W : World) (hb : Below Wv.heap.size Wv W) => (show Calls Try.prog 16 #[.agg #[.slice oo l0.length co, .slice o5 l5.length c5], .slice on l3.length cn] W (Gives (.bool ev) W) from by
      have h := zExists_any (w0 := W) (.slice oo l0.length co) (.slice o5 l5.length c5) (.slice on l3.length cn) l5 l0 l3 (below5 (below5 HB35.out HBV.out) hb) (HR5.out.kept hb) na (HOY.out.below (below5 HBV.out hb)) NBO.out (HNY.out.below (below5 HBV.out hb)) NBN.out
      rw [hK5, hev] at h
      exact h))
    have HBW := Lib.hid (below5 HBY.out HBV.out)
    clear hK5 hwv hev hr7 hp7 hn7 b7 bwv kx ky HNX z0 z1 HEW HEX
    gi_wp2_with fail
    refine drawnH [0, 1, 2, 3, 4, 5, 6, 7, 8, 9, 10, 11, 12, 13, 14, 15, 16, 17, 18, 19, 20, 21, 22, 23, 24, 25, 26, 27, 28, 29] (fun W => W.cell? ⟨gx, 1, none⟩ = some (.slice o7 l7.length c7) ∧ W.cell? ⟨w5.heap.size, 0, none⟩ = some (.slice oo l0.length co) ∧ W.cell? ⟨w5.heap.size, 1, none⟩ = some (.slice o5 l5.length c5) ∧ W.cell? ⟨g, 0, none⟩ = some (.slice oo l0.length co) ∧ W.cell? ⟨g, 1, none⟩ = some (.slice o6 l6.length c6)) 31 rfl (by kernel_rfl) ?_
    intro wa hwa
    have hbwwa : Below Wv.heap.size Wv wa := by subst hwa; exact (Below.refl _ _).drew
    have hS := hMK.out _ hbwwa
    clear hwa hWu hWv g0 g1 f0 f1
    refine takeH 0 (v := ?rv0) (fun _ => trivial) (by rfl) (by kernel_rfl) hS (.inl ⟨by kernel_rfl, fun w1 ⟨s0, s1, s2, s3, s4⟩ => ?ry0⟩) ?_
    case ry0 => (go_simp; try first | rfl | (rw [if_pos (by omega)]) | (rw [if_neg (by omega)]) | (rw [if_neg (by simp; omega)]) | (split <;> first | (exfalso; omega) | rfl))
    refine takeH 2 (v := ?rv2) (fun _ => trivial) (by rfl) (by kernel_rfl) hS (.inl ⟨by kernel_rfl, fun w1 ⟨s0, s1, s2, s3, s4⟩ => ?ry2⟩) ?_
    case ry2 => (go_simp; try first | rfl | (rw [if_pos (by omega)]) | (rw [if_neg (by omega)]) | (rw [if_neg (by simp; omega)]) | (split <;> first | (exfalso; omega) | rfl))
    refine takeH 1 (v := ?rv1) (fun _ => trivial) (by rfl) (by kernel_rfl) hS (.inl ⟨by kernel_rfl, fun w1 ⟨s0, s1, s2, s3, s4⟩ => ?ry1⟩) ?_
    case ry1 => (go_simp; try first | rfl | (rw [if_pos (by omega)]) | (rw [if_neg (by omega)]) | (rw [if_neg (by simp; omega)]) | (split <;> first | (exfalso; omega) | rfl))
    refine takeH 3 (v := ?rv3) (fun _ => trivial) (by rfl) (by kernel_rfl) hS (.inl ⟨by kernel_rfl, fun w1 ⟨s0, s1, s2, s3, s4⟩ => ?ry3⟩) ?_
    case ry3 => (go_simp; try first | rfl | (rw [if_pos (by omega)]) | (rw [if_neg (by omega)]) | (rw [if_neg (by simp; omega)]) | (split <;> first | (exfalso; omega) | rfl))
    refine oneH 4 (by rfl) (by kernel_rfl) (fun K hK => ?_)
    gi_wp2_with fail
    refine (callsIn_wide.2 (HSA.out wa hbwwa)).mono ?_
    rintro e wb ⟨rfl, bwb⟩
    have hbwwb := below5 hbwwa bwb
    have hS := hMK.out _ hbwwb
    gi_wp2_with fail
    refine hK _ _ (fun _ => hS) ?_
    clear hK K bwb
    refine takeH 5 (v := ?rv5) (fun _ => trivial) (by rfl) (by kernel_rfl) hS (.inl ⟨by kernel_rfl, fun w1 ⟨s0, s1, s2, s3, s4⟩ => ?ry5⟩) ?_
    case ry5 => (go_simp; try first | rfl | (rw [if_pos (by omega)]) | (rw [if_neg (by omega)]) | (rw [if_neg (by simp; omega)]) | (split <;> first | (exfalso; omega) | rfl))
    refine takeH 6 (v := ?rv6) (fun _ => trivial) (by rfl) (by kernel_rfl) hS (.inl ⟨by kernel_rfl, fun w1 ⟨s0, s1, s2, s3, s4⟩ => ?ry6⟩) ?_
    case ry6 => (go_simp; try first | rfl | (rw [if_pos (by omega)]) | (rw [if_neg (by omega)]) | (rw [if_neg (by simp; omega)]) | (split <;> first | (exfalso; omega) | rfl))
    refine takeH 8 (v := ?rv8) (fun _ => trivial) (by rfl) (by kernel_rfl) hS (.inl ⟨by kernel_rfl, fun w1 ⟨s0, s1, s2, s3, s4⟩ => ?ry8⟩) ?_
    case ry8 => (go_simp; try first | rfl | (rw [if_pos (by omega)]) | (rw [if_neg (by omega)]) | (rw [if_neg (by simp; omega)]) | (split <;> first | (exfalso; omega) | rfl))
    refine takeH 7 (v := ?rv7) (fun _ => trivial) (by rfl) (by kernel_rfl) hS (.inl ⟨by kernel_rfl, fun w1 ⟨s0, s1, s2, s3, s4⟩ => ?ry7⟩) ?_
    case ry7 => (go_simp; try first | rfl | (rw [if_pos (by omega)]) | (rw [if_neg (by omega)]) | (rw [if_neg (by simp; omega)]) | (split <;> first | (exfalso; omega) | rfl))
    refine takeH 9 (v := ?rv9) (fun _ => trivial) (by rfl) (by kernel_rfl) hS (.inl ⟨by kernel_rfl, fun w1 ⟨s0, s1, s2, s3, s4⟩ => ?ry9⟩) ?_
    case ry9 => (go_simp; try first | rfl | (rw [if_pos (by omega)]) | (rw [if_neg (by omega)]) | (rw [if_neg (by simp; omega)]) | (split <;> first | (exfalso; omega) | rfl))
    refine oneH 10 (by rfl) (by kernel_rfl) (fun K hK => ?_)
    gi_wp2_with fail
    refine (callsIn_wide.2 (HSB.out wb hbwwb)).mono ?_
    rintro e wc ⟨rfl, bwc⟩
    have hbwwc := below5 hbwwb bwc
    have hS := hMK.out _ hbwwc
    gi_wp2_with fail
    refine hK _ _ (fun _ => hS) ?_
    clear hK K bwc
    refine takeH 11 (v := ?rv11) (fun _ => trivial) (by rfl) (by kernel_rfl) hS (.inl ⟨by kernel_rfl, fun w1 ⟨s0, s1, s2, s3, s4⟩ => ?ry11⟩) ?_
    case ry11 => (go_simp; try first | rfl | (rw [if_pos (by omega)]) | (rw [if_neg (by omega)]) | (rw [if_neg (by simp; omega)]) | (split <;> first | (exfalso; omega) | rfl))
    refine takeH 12 (v := ?rv12) (fun _ => trivial) (by rfl) (by kernel_rfl) hS (.inl ⟨by kernel_rfl, fun w1 ⟨s0, s1, s2, s3, s4⟩ => ?ry12⟩) ?_
    case ry12 => (go_simp; try first | rfl | (rw [if_pos (by omega)]) | (rw [if_neg (by omega)]) | (rw [if_neg (by simp; omega)]) | (split <;> first | (exfalso; omega) | rfl))
    refine takeH 14 (v := ?rv14) (fun _ => trivial) (by rfl) (by kernel_rfl) hS (.inl ⟨by kernel_rfl, fun w1 ⟨s0, s1, s2, s3, s4⟩ => ?ry14⟩) ?_
    case ry14 => (go_simp; try first | rfl | (rw [if_pos (by omega)]) | (rw [if_neg (by omega)]) | (rw [if_neg (by simp; omega)]) | (split <;> first | (exfalso; omega) | rfl))
    refine takeH 17 (v := ?rv17) (fun _ => trivial) (by rfl) (by kernel_rfl) hS (.inl ⟨by kernel_rfl, fun w1 ⟨s0, s1, s2, s3, s4⟩ => ?ry17⟩) ?_
    case ry17 => (go_simp; try first | rfl | (rw [if_pos (by omega)]) | (rw [if_neg (by omega)]) | (rw [if_neg (by simp; omega)]) | (split <;> first | (exfalso; omega) | rfl))
    refine takeH 13 (v := ?rv13) (fun _ => trivial) (by rfl) (by kernel_rfl) hS (.inl ⟨by kernel_rfl, fun w1 ⟨s0, s1, s2, s3, s4⟩ => ?ry13⟩) ?_
    case ry13 => (go_simp; try first | rfl | (rw [if_pos (by omega)]) | (rw [if_neg (by omega)]) | (rw [if_neg (by simp; omega)]) | (split <;> first | (exfalso; omega) | rfl))
    refine takeH 16 (v := ?rv16) (fun _ => trivial) (by rfl) (by kernel_rfl) hS (.inl ⟨by kernel_rfl, fun w1 ⟨s0, s1, s2, s3, s4⟩ => ?ry16⟩) ?_
    case ry16 => (go_simp; try first | rfl | (rw [if_pos (by omega)]) | (rw [if_neg (by omega)]) | (rw [if_neg (by simp; omega)]) | (split <;> first | (exfalso; omega) | rfl))
    refine oneH 15 (by rfl) (by kernel_rfl) (fun K hK => ?_)
    gi_wp2_with fail
    refine (callsIn_wide.2 (HWY.out wc hbwwc)).mono ?_
    rintro e wd ⟨rfl, bwd⟩
    have hbwwd := below5 hbwwc bwd
    have hS := hMK.out _ hbwwd
    gi_wp2_with fail
    refine hK _ _ (fun _ => hS) ?_
    clear hK K bwd
    refine oneH 18 (by rfl) (by kernel_rfl) (fun K hK => ?_)
    gi_wp2_with fail
    refine (callsIn_wide.2 (HWZ.out wd hbwwd)).mono ?_
    rintro e we ⟨rfl, bwe⟩
    have hbwwe := below5 hbwwd bwe
    have hS := hMK.out _ hbwwe
    gi_wp2_with fail
    refine hK _ _ (fun _ => hS) ?_
    clear hK K bwe
    refine takeH 19 (v := ?rv19) (fun _ => trivial) (by rfl) (by kernel_rfl) hS (.inl ⟨by kernel_rfl, fun w1 ⟨s0, s1, s2, s3, s4⟩ => ?ry19⟩) ?_
    case ry19 => (go_simp; try first | rfl | (rw [if_pos (by omega)]) | (rw [if_neg (by omega)]) | (rw [if_neg (by simp; omega)]) | (split <;> first | (exfalso; omega) | rfl))
    refine takeH 20 (v := ?rv20) (fun _ => trivial) (by rfl) (by kernel_rfl) hS (.inl ⟨by kernel_rfl, fun w1 ⟨s0, s1, s2, s3, s4⟩ => ?ry20⟩) ?_
    case ry20 => (go_simp; try first | rfl | (rw [if_pos (by omega)]) | (rw [if_neg (by omega)]) | (rw [if_neg (by simp; omega)]) | (split <;> first | (exfalso; omega) | rfl))
    refine takeH 21 (v := ?rv21) (fun _ => trivial) (by rfl) (by kernel_rfl) hS (.inl ⟨by kernel_rfl, fun w1 ⟨s0, s1, s2, s3, s4⟩ => ?ry21⟩) ?_
    case ry21 => (go_simp; try first | rfl | (rw [if_pos (by omega)]) | (rw [if_neg (by omega)]) | (rw [if_neg (by simp; omega)]) | (split <;> first | (exfalso; omega) | rfl))
    refine takeH 23 (v := ?rv23) (fun _ => trivial) (by rfl) (by kernel_rfl) hS (.inl ⟨by kernel_rfl, fun w1 ⟨s0, s1, s2, s3, s4⟩ => ?ry23⟩) ?_
    case ry23 => (go_simp; try first | rfl | (rw [if_pos (by omega)]) | (rw [if_neg (by omega)]) | (rw [if_neg (by simp; omega)]) | (split <;> first | (exfalso; omega) | rfl))
    refine takeH 26 (v := ?rv26) (fun _ => trivial) (by rfl) (by kernel_rfl) hS (.inl ⟨by kernel_rfl, fun w1 ⟨s0, s1, s2, s3, s4⟩ => ?ry26⟩) ?_
    case ry26 => (go_simp; try first | rfl | (rw [if_pos (by omega)]) | (rw [if_neg (by omega)]) | (rw [if_neg (by simp; omega)]) | (split <;> first | (exfalso; omega) | rfl))
    refine takeH 22 (v := ?rv22) (fun _ => trivial) (by rfl) (by kernel_rfl) hS (.inl ⟨by kernel_rfl, fun w1 ⟨s0, s1, s2, s3, s4⟩ => ?ry22⟩) ?_
    case ry22 => (go_simp; try first | rfl | (rw [if_pos (by omega)]) | (rw [if_neg (by omega)]) | (rw [if_neg (by simp; omega)]) | (split <;> first | (exfalso; omega) | rfl))
    refine takeH 25 (v := ?rv25) (fun _ => trivial) (by rfl) (by kernel_rfl) hS (.inl ⟨by kernel_rfl, fun w1 ⟨s0, s1, s2, s3, s4⟩ => ?ry25⟩) ?_
    case ry25 => (go_simp; try first | rfl | (rw [if_pos (by omega)]) | (rw [if_neg (by omega)]) | (rw [if_neg (by simp; omega)]) | (split <;> first | (exfalso; omega) | rfl))
    refine oneH 24 (by rfl) (by kernel_rfl) (fun K hK => ?_)
    gi_wp2_with fail
    refine (callsIn_wide.2 (HEY.out we hbwwe)).mono ?_
    rintro e wf ⟨rfl, bwf⟩
    have hbwwf := below5 hbwwe bwf
    have hS := hMK.out _ hbwwf
    gi_wp2_with fail
    refine hK _ _ (fun _ => hS) ?_
    clear hK K bwf
    refine oneH 27 (by rfl) (by kernel_rfl) (fun K hK => ?_)
    gi_wp2_with fail
    refine (callsIn_wide.2 (HEZ.out wf hbwwf)).mono ?_
    rintro e wg ⟨rfl, bwg⟩
    have hbwwg := below5 hbwwf bwg
    have hS := hMK.out _ hbwwg
    gi_wp2_with fail
    refine hK _ _ (fun _ => hS) ?_
    clear hK K bwg
    refine takeH 28 (v := ?rv28) (fun _ => trivial) (by rfl) (by kernel_rfl) hS (.inl ⟨by kernel_rfl, fun w1 ⟨s0, s1, s2, s3, s4⟩ => ?ry28⟩) ?_
    case ry28 => (go_simp; try first | rfl | (rw [if_pos (by omega)]) | (rw [if_neg (by omega)]) | (rw [if_neg (by simp; omega)]) | (split <;> first | (exfalso; omega) | rfl))
    refine takeH 29 (v := ?rv29) (fun _ => trivial) (by rfl) (by kernel_rfl) hS (.inl ⟨by kernel_rfl, fun w1 ⟨s0, s1, s2, s3, s4⟩ => ?ry29⟩) ?_
    case ry29 => (go_simp; try first | rfl | (rw [if_pos (by omega)]) | (rw [if_neg (by omega)]) | (rw [if_neg (by simp; omega)]) | (split <;> first | (exfalso; omega) | rfl))
    refine oneH 30 (by rfl) (by kernel_rfl) (fun K hK => ?_)
    gi_wp2_with fail
    refine hK _ _ (fun h => absurd h (by decide)) ?_
    clear hK K
    refine doneH (by kernel_rfl) ?_
    gi_wp2_with fail
    go_ret
    exact ⟨rfl, below5 HBW.out hbwwg⟩
end Go.Proofs.Ytneghhbclefmoaa
