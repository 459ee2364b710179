/- The laws' own known, of what is wrong with a zone. -/
import Derived.Test.YtneghhbclefmoaaGreatKCkH
import Derived.Test.YtneghhbclefmoaaGreatKCkB
import Derived.Test.YtneghhbclefmoaaGreatKSfA
import Derived.Test.YtneghhbclefmoaaGreatKReg
namespace Go.Proofs.YtneghhbclefmoaaGreat
open Go.RowKit Go.Shelf Go.Sort
set_option maxRecDepth 100000
theorem Ck.alike_at : ∀ {a b : List PFl}, Ck.alike a b = true -> a.length = b.length /\ ∀ i (h : i < a.length) (h' : i < b.length), Ck.cmp a[i] b[i] = 0
 | [], [], _ => ⟨rfl, fun i h => by simp at h⟩
 | x :: a, y :: b, h => by
  rw [Ck.alike, Bool.and_eq_true, beq_iff_eq] at h
  obtain ⟨h1, h2⟩ := Ck.alike_at h.2
  refine ⟨by simp [h1], fun i hi hi' => ?_⟩
  cases i with
  | zero => exact h.1
  | succ i => exact h2 i (by simpa using hi) (by simpa using hi')
 | [], _ :: _, h => by cases h
 | _ :: _, [], h => by cases h
theorem Ck.same_of {a b : PFl} (h : Ck.cmp a b = 0) : a.kind = b.kind /\ Nm.same a.owner b.owner = true /\ a.type = b.type := by
 obtain ⟨h1, h2, h3⟩ := Ck.cmp_same h
 exact ⟨h2, by unfold Nm.same; rw [h1]; simp, h3⟩
abbrev Ck.ka : Rc.PRec := ⟨[[97], [111]], 0, 5, [[[120]]], [], [], []⟩
abbrev Ck.kb : Rc.PRec := ⟨[[97], [111]], 0, 1, [], [], [], [1, 2, 3, 4]⟩
def Ck.kf : List PFl := [⟨1, [[111]], 6⟩, ⟨3, [[111]], 2⟩, ⟨5, [[97], [111]], 5⟩]
theorem Ck.k_canon : Rc.canon [Ck.ka, Ck.kb] = [Ck.kb, Ck.ka] := by kernel_rfl
theorem Ck.k_canon2 : Rc.canon [Ck.kb, Ck.ka] = [Ck.kb, Ck.ka] := by kernel_rfl
theorem Ck.k_types : Rs.types [Ck.kb, Ck.ka] [[97], [111]] = [1, 5] := by
 unfold Rs.types
 rw [show ((([Ck.kb, Ck.ka] : List Rc.PRec).filter fun r => Nm.same r.owner [[97], [111]]).map (·.type)) = [1, 5] by kernel_rfl, List.mergeSort_of_pairwise (by decide)]
 decide +kernel
theorem Ck.k_raw : Ck.raw [[111]] [Ck.kb, Ck.ka] = Ck.kf := by
 have h1 : Ck.apexF [[111]] [Ck.kb, Ck.ka] = [⟨1, [[111]], 6⟩, ⟨3, [[111]], 2⟩] := by
  have e : Ck.apexL [[111]] [Ck.kb, Ck.ka] = [(1, 6), (3, 2)] := by decide +kernel
  unfold Ck.apexF; rw [e]; rfl
 have h2 : Rs.G [Ck.kb, Ck.ka] = [[Ck.kb], [Ck.ka]] := by
  show Rs.grpF (Rc.canon _).length (Rc.canon _) = _
  rw [Ck.k_canon2]; kernel_rfl
 have hw : Zn.wher [[111]] [Ck.kb, Ck.ka] [[97], [111]] = 1 := by decide +kernel
 have hc : Ck.cov [[111]] [Ck.kb, Ck.ka] [[97], [111]] = false := by decide +kernel
 have h3 : Ck.kinds [[111]] [Ck.kb, Ck.ka] [[97], [111]] 1 1 = [] := by
  unfold Ck.kinds
  rw [hw, hc, Ck.k_types]
  decide +kernel
 have h4 : Ck.kinds [[111]] [Ck.kb, Ck.ka] [[97], [111]] 5 1 = [5] := by
  unfold Ck.kinds
  rw [hw, hc, Ck.k_types]
  decide +kernel
 unfold Ck.raw
 rw [h1, h2]
 show _ ++ (Ck.ofG _ _ [Ck.kb] ++ (Ck.ofG _ _ [Ck.ka] ++ [])) = _
 show _ ++ (((Ck.kinds [[111]] [Ck.kb, Ck.ka] [[97], [111]] 1 1).map fun k => (⟨k, [[97], [111]], 1⟩ : PFl)) ++ (((Ck.kinds [[111]] [Ck.kb, Ck.ka] [[97], [111]] 5 1).map fun k => (⟨k, [[97], [111]], 5⟩ : PFl)) ++ [])) = _
 rw [h3, h4]; rfl
theorem Ck.k_of : Ck.Of Ck.kf Ck.kf := ⟨by
 unfold Ck.kf
 refine List.pairwise_cons.2 ⟨fun z hz => ?_, List.pairwise_cons.2 ⟨fun z hz => ?_, List.pairwise_singleton _ _⟩⟩
 ·simp only [List.mem_cons, List.not_mem_nil, or_false] at hz
  rcases hz with rfl | rfl <;> decide +kernel
 ·simp only [List.mem_cons, List.not_mem_nil, or_false] at hz
  rcases hz with rfl; decide +kernel, fun x h => h, fun y h => ⟨y, h, Ck.cmp_cm.refl y⟩⟩
set_option maxHeartbeats 4000000 in
theorem known13_any (w : World) : Calls Tryz.prog 39 #[] w (Gives (.bool true) w) := by
 obtain ⟨W1, hW1⟩ : ∃ W, w.alloc (.cells #[S [111]] 9) = W := ⟨_, rfl⟩
 have bW1 : Below w.heap.size w W1 := by rw [<- hW1]; exact (Below.refl _ _).alloc (Nat.le_refl _) _
 have sW1 : W1.heap.size = w.heap.size + 1 := by rw [<- hW1, World.size_alloc]
 have k0 : Blk w.heap.size #[S [111]] 9 W1 := by have := Blk.new w #[S [111]] 9; rw [hW1] at this; exact this
 obtain ⟨W2, hW2⟩ : ∃ W, W1.alloc (.cells #[S [97], S [111]] 9) = W := ⟨_, rfl⟩
 have bW2 : Below W1.heap.size W1 W2 := by rw [<- hW2]; exact (Below.refl _ _).alloc (Nat.le_refl _) _
 have sW2 : W2.heap.size = w.heap.size + 2 := by rw [<- hW2, World.size_alloc]; rw [sW1]
 have k1 : Blk (w.heap.size + 1) #[S [97], S [111]] 9 W2 := by have := Blk.new W1 #[S [97], S [111]] 9; rw [hW2] at this; rw [sW1] at this; exact this
 obtain ⟨W3, hW3⟩ : ∃ W, W2.alloc (.cells #[S [120]] 9) = W := ⟨_, rfl⟩
 have bW3 : Below W2.heap.size W2 W3 := by rw [<- hW3]; exact (Below.refl _ _).alloc (Nat.le_refl _) _
 have sW3 : W3.heap.size = w.heap.size + 3 := by rw [<- hW3, World.size_alloc]; rw [sW2]
 have k2 : Blk (w.heap.size + 2) #[S [120]] 9 W3 := by have := Blk.new W2 #[S [120]] 9; rw [hW3] at this; rw [sW2] at this; exact this
 obtain ⟨W4, hW4⟩ : ∃ W, W3.alloc (.cells #[.slice (some ⟨w.heap.size + 2, 0, none⟩) 1 1] 23) = W := ⟨_, rfl⟩
 have bW4 : Below W3.heap.size W3 W4 := by rw [<- hW4]; exact (Below.refl _ _).alloc (Nat.le_refl _) _
 have sW4 : W4.heap.size = w.heap.size + 4 := by rw [<- hW4, World.size_alloc]; rw [sW3]
 have k3 : Blk (w.heap.size + 3) #[.slice (some ⟨w.heap.size + 2, 0, none⟩) 1 1] 23 W4 := by have := Blk.new W3 #[.slice (some ⟨w.heap.size + 2, 0, none⟩) 1 1] 23; rw [hW4] at this; rw [sW3] at this; exact this
 obtain ⟨W5, hW5⟩ : ∃ W, W4.alloc (.cells #[.int .u8 1, .int .u8 2, .int .u8 3, .int .u8 4] 5) = W := ⟨_, rfl⟩
 have bW5 : Below W4.heap.size W4 W5 := by rw [<- hW5]; exact (Below.refl _ _).alloc (Nat.le_refl _) _
 have sW5 : W5.heap.size = w.heap.size + 5 := by rw [<- hW5, World.size_alloc]; rw [sW4]
 have k4 : Blk (w.heap.size + 4) #[.int .u8 1, .int .u8 2, .int .u8 3, .int .u8 4] 5 W5 := by have := Blk.new W4 #[.int .u8 1, .int .u8 2, .int .u8 3, .int .u8 4] 5; rw [hW5] at this; rw [sW4] at this; exact this
 obtain ⟨W6, hW6⟩ : ∃ W, W5.alloc (.cells #[.slice (some ⟨w.heap.size + 1, 0, none⟩) 2 2, .int .u32 0, .int .i64 5, .slice (some ⟨w.heap.size + 3, 0, none⟩) 1 1, .slice none 0 0, .slice none 0 0, .slice none 0 0, .slice (some ⟨w.heap.size + 1, 0, none⟩) 2 2, .int .u32 0, .int .i64 1, .slice none 0 0, .slice none 0 0, .slice none 0 0, .slice (some ⟨w.heap.size + 4, 0, none⟩) 4 4] 90) = W := ⟨_, rfl⟩
 have bW6 : Below W5.heap.size W5 W6 := by rw [<- hW6]; exact (Below.refl _ _).alloc (Nat.le_refl _) _
 have sW6 : W6.heap.size = w.heap.size + 6 := by rw [<- hW6, World.size_alloc]; rw [sW5]
 have k5 : Blk (w.heap.size + 5) #[.slice (some ⟨w.heap.size + 1, 0, none⟩) 2 2, .int .u32 0, .int .i64 5, .slice (some ⟨w.heap.size + 3, 0, none⟩) 1 1, .slice none 0 0, .slice none 0 0, .slice none 0 0, .slice (some ⟨w.heap.size + 1, 0, none⟩) 2 2, .int .u32 0, .int .i64 1, .slice none 0 0, .slice none 0 0, .slice none 0 0, .slice (some ⟨w.heap.size + 4, 0, none⟩) 4 4] 90 W6 := by have := Blk.new W5 #[.slice (some ⟨w.heap.size + 1, 0, none⟩) 2 2, .int .u32 0, .int .i64 5, .slice (some ⟨w.heap.size + 3, 0, none⟩) 1 1, .slice none 0 0, .slice none 0 0, .slice none 0 0, .slice (some ⟨w.heap.size + 1, 0, none⟩) 2 2, .int .u32 0, .int .i64 1, .slice none 0 0, .slice none 0 0, .slice none 0 0, .slice (some ⟨w.heap.size + 4, 0, none⟩) 4 4] 90; rw [hW6] at this; rw [sW5] at this; exact this
 have tW6 : Below W6.heap.size W6 W6 := Below.refl _ _
 have tW5 : Below W5.heap.size W5 W6 := below5 bW6 tW6
 have tW4 : Below W4.heap.size W4 W6 := below5 bW5 tW5
 have tW3 : Below W3.heap.size W3 W6 := below5 bW4 tW4
 have tW2 : Below W2.heap.size W2 W6 := below5 bW3 tW3
 have tW1 : Below W1.heap.size W1 W6 := below5 bW2 tW2
 have m0 := k0.below tW1
 have m1 := k1.below tW2
 have m2 := k2.below tW3
 have m3 := k3.below tW4
 have m4 := k4.below tW5
 have m5 := k5.below tW6
 have hnil : Rd (.slice none 0 0) [] W6 := Rd.nil _
 have hsl : Sl (.slice none 0 0) [] W6 := Sl.nil _
 have hnm0 : NmsRd (.slice none 0 0) [] W6 := ⟨[], rfl, Sl.nil _, fun i h => by simp at h⟩
 have hraw0 : BtRd (.slice none 0 0) [] W6 := Sl.nil _
 have hraw : BtRd (.slice (some ⟨w.heap.size + 4, 0, none⟩) 4 4) [1, 2, 3, 4] W6 := sl_blk (cs := [.int .u8 1, .int .u8 2, .int .u8 3, .int .u8 4]) m4 (by simp)
 have hns : NmsRd (.slice (some ⟨w.heap.size + 3, 0, none⟩) 1 1) [[[120]]] W6 := by
  refine ⟨[.slice (some ⟨w.heap.size + 2, 0, none⟩) 1 1], rfl, sl_blk (cs := [.slice (some ⟨w.heap.size + 2, 0, none⟩) 1 1]) m3 (by simp), fun i h h2 => ?_⟩
  obtain rfl : i = 0 := by have h3 : i < 1 := h2; omega
  exact rd_blk [[120]] m2 (by decide)
 have ho := rd_blk [[111]] m0 (by decide)
 have hn := rd_blk [[97], [111]] m1 (by decide)
 have e0 : RecRd [.slice (some ⟨w.heap.size + 1, 0, none⟩) 2 2, .int .u32 0, .int .i64 5, .slice (some ⟨w.heap.size + 3, 0, none⟩) 1 1, .slice none 0 0, .slice none 0 0, .slice none 0 0] Ck.ka W6 /\ RB Ck.ka := ⟨⟨_, _, rfl, hn, _, _, _, _, rfl, hns, hsl, hnil, hraw0⟩, ⟨nb_ok (by decide), ⟨by decide, fun n hn => by simp at hn; subst hn; exact nb_ok (by decide)⟩, ⟨by decide, by simp⟩, by decide, by decide⟩⟩
 have e1 : RecRd [.slice (some ⟨w.heap.size + 1, 0, none⟩) 2 2, .int .u32 0, .int .i64 1, .slice none 0 0, .slice none 0 0, .slice none 0 0, .slice (some ⟨w.heap.size + 4, 0, none⟩) 4 4] Ck.kb W6 /\ RB Ck.kb := ⟨⟨_, _, rfl, hn, _, _, _, _, rfl, hnm0, hsl, hnil, hraw⟩, ⟨nb_ok (by decide), ⟨by decide, by simp⟩, ⟨by decide, by simp⟩, by decide, by decide⟩⟩
 obtain ⟨l, hl⟩ : ∃ l : List (El W6), [⟨(_, _), e0⟩, ⟨(_, _), e1⟩] = l := ⟨_, rfl⟩
 have hl2 : l.length = 2 := by rw [<- hl]; rfl
 have hpl : plE l = [Ck.ka, Ck.kb] := by rw [<- hl]; rfl
 have hrecs : RecsRd (.slice (some ⟨w.heap.size + 5, 0, none⟩) 2 2) (l.map (·.1)) W6 := by
  have := recs_blk l (by rw [<- hl]; exact m5) (by rw [hl2]; decide)
  rw [hl2] at this; exact this
 have HNEW := Lib.hid (zNew_any (some ⟨w.heap.size, 0, none⟩) 1 1 (.slice (some ⟨w.heap.size + 5, 0, none⟩) 2 2) l hrecs (by omega))
 have HPL := Lib.hid hpl
 have HO := Lib.hid ho
 have HNN := Lib.hid hn
 have HBW := Lib.hid (below5 bW1 tW1)
 have nb0 : NB [[111]] := nb_ok (by decide)
 have nb1 : NB [[97], [111]] := nb_ok (by decide)
 clear m0 m1 m2 m3 m4 m5 k0 k1 k2 k3 k4 k5 hnil hsl hnm0 hraw0 hraw hns ho hn e0 e1 hl hrecs hpl bW1 bW2 bW3 bW4 bW5 bW6 tW1 tW2 tW3 tW4 tW5 tW6
 refine (callsIn_wide (n := 0)).1 ?_
 refine callsIn_of_wp Tryz.func39 rfl trivial ?_ rfl
 simp only [Tryz.ntmps39, List.size_toArray, List.length_nil, Nat.reduceSub, Array.replicate_succ, Array.replicate_zero, List.push_toArray, List.append_toArray, List.nil_append, List.cons_append]
 gi_wp2_with fail
 refine (callsIn_wide.2 HNEW.out).mono ?_
 rintro e w1 ⟨v1, l1, rfl, hr1, hp1, hn1, b1⟩
 obtain ⟨o1, c1, rfl⟩ : ∃ o cap, v1 = .slice o l1.length cap := by obtain ⟨_, o, cap, h, _⟩ := hr1; exact ⟨o, cap, by rw [h, List.length_map]⟩
 have hp : plE l1 = [Ck.kb, Ck.ka] := by rw [hp1, HPL.out, Ck.k_canon]
 have hl2' : l1.length = 2 := by rw [<- plE_len, hp]; rfl
 rw [hl2'] at hr1 ⊢
 obtain ⟨Wy, hWy⟩ : ∃ W, w1.alloc (.cells #[.slice (some ⟨w.heap.size, 0, none⟩) 1 1, .slice o1 2 c1] 29) = W := ⟨_, rfl⟩
 have ky : Blk w1.heap.size #[.slice (some ⟨w.heap.size, 0, none⟩) 1 1, .slice o1 2 c1] 29 Wy := by rw [<- hWy]; exact Blk.new w1 _ _
 have bwy : Below w1.heap.size w1 Wy := by rw [<- hWy]; exact (Below.refl _ _).alloc (Nat.le_refl _) _
 have g0 : Wy.cell? ⟨w1.heap.size, 0, none⟩ = some _ := ky.cell 0
 have g1 : Wy.cell? ⟨w1.heap.size, 1, none⟩ = some _ := ky.cell 1
 have hb6 : Below W6.heap.size W6 Wy := below5 b1 bwy
 have HZ := Lib.hid (ckZone_any (w := Wy) (.slice (some ⟨w.heap.size, 0, none⟩) 1 1) (.slice o1 2 c1) (l1.map (El.up hb6)) [[111]] (by rw [up_fst]; exact hr1.kept bwy) (by rw [List.length_map]; omega) (HO.out.below hb6) nb0)
 rw [up_pl, hp] at HZ
 have HB6 := Lib.hid hb6
 clear hr1 hp1 hn1 hp b1 bwy ky hb6 HNEW HPL hW1 hW2 hW3 hW4 hW5 hW6 sW1 sW2 sW3 sW4 sW5 sW6
 gi_wp2_with fail
 refine (callsIn_wide.2 HZ.out).mono ?_
 rintro e w2 ⟨v2, lf, rfl, g2, hof, _, b2⟩
 rw [Ck.k_raw] at hof
 obtain ⟨hle, hat⟩ := Ck.alike_at (hof.same Ck.k_of)
 have hl3 : lf.length = 3 := by unfold plF at hle; rw [List.length_map] at hle; exact hle
 obtain ⟨x, y, z, rfl⟩ : ∃ x y z, lf = [x, y, z] := by
  match lf, hl3 with
  | [x, y, z], _ => exact ⟨x, y, z, rfl⟩
 have a0 := Ck.same_of (hat 0 (by simp [plF]) (by decide))
 have a1 := Ck.same_of (hat 1 (by simp [plF]) (by decide))
 have a2 := Ck.same_of (hat 2 (by simp [plF]) (by decide))
 have hxz : Ck.cmp x.1.2 z.1.2 < 0 := (List.pairwise_cons.1 hof.strict).1 z.1.2 (by simp)
 simp only [plF, Ck.kf, List.map_cons, List.map_nil, List.getElem_cons_zero, List.getElem_cons_succ] at a0 a1 a2
 obtain ⟨p0, n0, q0, ex, hxo⟩ := x.cells
 obtain ⟨p1, n1, q1, ey, hyo⟩ := y.cells
 obtain ⟨p2, n2, q2, ez, hzo⟩ := z.cells
 rw [a0.1, a0.2.2] at ex
 rw [a1.1, a1.2.2] at ey
 rw [a2.1, a2.2.2] at ez
 have hxr := x.2.1
 have hzr := z.2.1
 rw [show x.1.1 = _ from ex] at hxr
 rw [show z.1.1 = _ from ez] at hzr
 obtain ⟨o2, c2, rfl, hc1, hc2⟩ := g2.form
 simp only [List.map_cons, List.map_nil, List.length_cons, List.length_nil, Nat.zero_add, Nat.reduceAdd] at g2 hc1 ⊢
 obtain ⟨ga, rfl, _⟩ := g2.el (by decide) 0 (by simp)
 have HCS : Hid (∀ W', Below w2.heap.size w2 W' -> Cs [(ga, Value.int .i64 1), (⟨ga.block, ga.off + 1, none⟩, .slice p0 n0 q0), (⟨ga.block, ga.off + 2, none⟩, .int .i64 6), (⟨ga.block, ga.off + 3, none⟩, .int .i64 3), (⟨ga.block, ga.off + 3 + 2, none⟩, .int .i64 2), (⟨ga.block, ga.off + 6, none⟩, .int .i64 5), (⟨ga.block, ga.off + 6 + 1, none⟩, .slice p2 n2 q2), (⟨ga.block, ga.off + 6 + 2, none⟩, .int .i64 5)] W') := fun W' hW => by
  obtain ⟨a, ha, r0, r1⟩ := (g2.below hW).at (by decide) 0 (by simp)
  cases ha
  obtain ⟨a, ha, s0, s1⟩ := (g2.below hW).at (by decide) 1 (by simp)
  cases ha
  obtain ⟨a, ha, t0, t1⟩ := (g2.below hW).at (by decide) 2 (by simp)
  cases ha
  simp only [List.getElem_cons_zero, List.getElem_cons_succ, ex, ey, ez, Nat.zero_mul, Nat.one_mul, Nat.reduceMul, add_zero'] at r0 r1 s0 s1 t0 t1
  exact ⟨r0, r1 1 (by decide) (by decide), r1 2 (by decide) (by decide), s0, s1 2 (by decide) (by decide), t0, t1 1 (by decide) (by decide), t1 2 (by decide) (by decide), trivial⟩
 have HSM : Hid (∀ W', Below w2.heap.size w2 W' -> Calls Tryz.prog 61 #[.slice p2 n2 q2, .slice (some ⟨w.heap.size + 1, 0, none⟩) 2 2] W' (Gives (.bool true) W')) := fun W' hW => by
  have h := nSame_any (.slice p2 n2 q2) (.slice (some ⟨w.heap.size + 1, 0, none⟩) 2 2) z.1.2.owner [[97], [111]] W' (hzo.below (below5 b2 hW)) ((HNN.out.below HB6.out).below (below5 b2 hW)) z.2.2 nb1
  rw [a2.2.1] at h; exact h
 obtain ⟨zc, hzc⟩ : ∃ c, Ck.cmp x.1.2 z.1.2 = c := ⟨_, rfl⟩
 rw [hzc] at hxz
 have HCM : Hid (∀ W', Below w2.heap.size w2 W' -> Calls Tryz.prog 44 #[.agg #[.int .i64 1, .slice p0 n0 q0, .int .i64 6], .agg #[.int .i64 5, .slice p2 n2 q2, .int .i64 5]] W' (Gives (.int .i64 zc) W')) := fun W' hW => by
  have h := ckCompare_any [.int .i64 1, .slice p0 n0 q0, .int .i64 6] [.int .i64 5, .slice p2 n2 q2, .int .i64 5] x.1.2 z.1.2 W' (hxr.below (below5 b2 hW)) (hzr.below (below5 b2 hW)) x.2.2 z.2.2
  rw [hzc] at h; exact h
 have HB2 : Hid (Below w.heap.size w w2) := below5 (below5 HBW.out HB6.out) b2
 clear hle hat a0 a1 a2 ex ey ez hxo hyo hzo hxr hzr g2 hof b2 HZ hzc g0 g1 hWy hl3
 gi_wp2_with fail
 refine drawnH (List.range 57) (Cs [(ga, Value.int .i64 1), (⟨ga.block, ga.off + 1, none⟩, .slice p0 n0 q0), (⟨ga.block, ga.off + 2, none⟩, .int .i64 6), (⟨ga.block, ga.off + 3, none⟩, .int .i64 3), (⟨ga.block, ga.off + 3 + 2, none⟩, .int .i64 2), (⟨ga.block, ga.off + 6, none⟩, .int .i64 5), (⟨ga.block, ga.off + 6 + 1, none⟩, .slice p2 n2 q2), (⟨ga.block, ga.off + 6 + 2, none⟩, .int .i64 5)]) 58 rfl (by kernel_rfl) ?_
 intro wa hwa
 have HBA : Hid (Below w2.heap.size w2 wa) := by subst hwa; exact (Below.refl _ _).drew
 have hS := HCS.out wa HBA.out
 clear hwa
 refine tH 0 ?qav0 hS (fun w1 ⟨x0, x1, x2, y0, y2, z0, z1, z2, _⟩ => ?qay0) ?_
 case qay0 => go_simp; try rfl
 refine tH 1 ?qav1 hS (fun w1 ⟨x0, x1, x2, y0, y2, z0, z1, z2, _⟩ => ?qay1) ?_
 case qay1 => go_simp; try rfl
 refine tH 2 ?qav2 hS (fun w1 ⟨x0, x1, x2, y0, y2, z0, z1, z2, _⟩ => ?qay2) ?_
 case qay2 => go_simp; try rfl
 refine tH 3 ?qav3 hS (fun w1 ⟨x0, x1, x2, y0, y2, z0, z1, z2, _⟩ => ?qay3) ?_
 case qay3 => go_simp; try rfl
 refine tH 4 ?qav4 hS (fun w1 ⟨x0, x1, x2, y0, y2, z0, z1, z2, _⟩ => ?qay4) ?_
 case qay4 => go_simp; try rfl
 refine tH 5 ?qav5 hS (fun w1 ⟨x0, x1, x2, y0, y2, z0, z1, z2, _⟩ => ?qay5) ?_
 case qay5 => go_simp; try rfl
 refine tH 6 ?qav6 hS (fun w1 ⟨x0, x1, x2, y0, y2, z0, z1, z2, _⟩ => ?qay6) ?_
 case qay6 => go_simp; try rfl
 refine tH 7 ?qav7 hS (fun w1 ⟨x0, x1, x2, y0, y2, z0, z1, z2, _⟩ => ?qay7) ?_
 case qay7 => go_simp; try rfl
 refine tH 8 ?qav8 hS (fun w1 ⟨x0, x1, x2, y0, y2, z0, z1, z2, _⟩ => ?qay8) ?_
 case qay8 => go_simp; try rfl
 refine tH 9 ?qav9 hS (fun w1 ⟨x0, x1, x2, y0, y2, z0, z1, z2, _⟩ => ?qay9) ?_
 case qay9 => go_simp; try rfl
 simp only [Act.put, List.setIfInBounds_toArray, List.set_cons_succ, List.set_cons_zero]
 refine tH 10 ?qbv10 hS (fun w1 ⟨x0, x1, x2, y0, y2, z0, z1, z2, _⟩ => ?qby10) ?_
 case qby10 => go_simp; try rfl
 refine tH 11 ?qbv11 hS (fun w1 ⟨x0, x1, x2, y0, y2, z0, z1, z2, _⟩ => ?qby11) ?_
 case qby11 => go_simp; try rfl
 refine tH 12 ?qbv12 hS (fun w1 ⟨x0, x1, x2, y0, y2, z0, z1, z2, _⟩ => ?qby12) ?_
 case qby12 => go_simp; try rfl
 refine tH 13 ?qbv13 hS (fun w1 ⟨x0, x1, x2, y0, y2, z0, z1, z2, _⟩ => ?qby13) ?_
 case qby13 => go_simp; try rfl
 refine tH 14 ?qbv14 hS (fun w1 ⟨x0, x1, x2, y0, y2, z0, z1, z2, _⟩ => ?qby14) ?_
 case qby14 => go_simp; try rfl
 refine tH 15 ?qbv15 hS (fun w1 ⟨x0, x1, x2, y0, y2, z0, z1, z2, _⟩ => ?qby15) ?_
 case qby15 => go_simp; try rfl
 refine tH 16 ?qbv16 hS (fun w1 ⟨x0, x1, x2, y0, y2, z0, z1, z2, _⟩ => ?qby16) ?_
 case qby16 => go_simp; try rfl
 refine tH 17 ?qbv17 hS (fun w1 ⟨x0, x1, x2, y0, y2, z0, z1, z2, _⟩ => ?qby17) ?_
 case qby17 => go_simp; try rfl
 refine tH 18 ?qbv18 hS (fun w1 ⟨x0, x1, x2, y0, y2, z0, z1, z2, _⟩ => ?qby18) ?_
 case qby18 => go_simp; try rfl
 refine tH 19 ?qbv19 hS (fun w1 ⟨x0, x1, x2, y0, y2, z0, z1, z2, _⟩ => ?qby19) ?_
 case qby19 => go_simp; try rfl
 simp only [Act.put, List.setIfInBounds_toArray, List.set_cons_succ, List.set_cons_zero]
 refine tH 20 ?qcv20 hS (fun w1 ⟨x0, x1, x2, y0, y2, z0, z1, z2, _⟩ => ?qcy20) ?_
 case qcy20 => go_simp; try rfl
 refine tH 21 ?qcv21 hS (fun w1 ⟨x0, x1, x2, y0, y2, z0, z1, z2, _⟩ => ?qcy21) ?_
 case qcy21 => go_simp; try rfl
 refine tH 22 ?qcv22 hS (fun w1 ⟨x0, x1, x2, y0, y2, z0, z1, z2, _⟩ => ?qcy22) ?_
 case qcy22 => go_simp; try rfl
 refine tH 23 ?qcv23 hS (fun w1 ⟨x0, x1, x2, y0, y2, z0, z1, z2, _⟩ => ?qcy23) ?_
 case qcy23 => go_simp; try rfl
 refine tH 24 ?qcv24 hS (fun w1 ⟨x0, x1, x2, y0, y2, z0, z1, z2, _⟩ => ?qcy24) ?_
 case qcy24 => go_simp; try rfl
 refine tH 25 ?qcv25 hS (fun w1 ⟨x0, x1, x2, y0, y2, z0, z1, z2, _⟩ => ?qcy25) ?_
 case qcy25 => go_simp; try rfl
 refine tH 26 ?qcv26 hS (fun w1 ⟨x0, x1, x2, y0, y2, z0, z1, z2, _⟩ => ?qcy26) ?_
 case qcy26 => go_simp; try rfl
 refine tH 27 ?qcv27 hS (fun w1 ⟨x0, x1, x2, y0, y2, z0, z1, z2, _⟩ => ?qcy27) ?_
 case qcy27 => go_simp; try rfl
 refine tH 28 ?qcv28 hS (fun w1 ⟨x0, x1, x2, y0, y2, z0, z1, z2, _⟩ => ?qcy28) ?_
 case qcy28 => go_simp; try rfl
 refine tH 29 ?qcv29 hS (fun w1 ⟨x0, x1, x2, y0, y2, z0, z1, z2, _⟩ => ?qcy29) ?_
 case qcy29 => go_simp; try rfl
 simp only [Act.put, List.setIfInBounds_toArray, List.set_cons_succ, List.set_cons_zero]
 refine tH 30 ?qdv30 hS (fun w1 ⟨x0, x1, x2, y0, y2, z0, z1, z2, _⟩ => ?qdy30) ?_
 case qdy30 => go_simp; try rfl
 refine tH 31 ?qdv31 hS (fun w1 ⟨x0, x1, x2, y0, y2, z0, z1, z2, _⟩ => ?qdy31) ?_
 case qdy31 => go_simp; try rfl
 refine tH 32 ?qdv32 hS (fun w1 ⟨x0, x1, x2, y0, y2, z0, z1, z2, _⟩ => ?qdy32) ?_
 case qdy32 => go_simp; try rfl
 refine tH 33 ?qdv33 hS (fun w1 ⟨x0, x1, x2, y0, y2, z0, z1, z2, _⟩ => ?qdy33) ?_
 case qdy33 => go_simp; try rfl
 refine tH 34 ?qdv34 hS (fun w1 ⟨x0, x1, x2, y0, y2, z0, z1, z2, _⟩ => ?qdy34) ?_
 case qdy34 => go_simp; try rfl
 refine tH 35 ?qdv35 hS (fun w1 ⟨x0, x1, x2, y0, y2, z0, z1, z2, _⟩ => ?qdy35) ?_
 case qdy35 => go_simp; try rfl
 refine tH 36 ?qdv36 hS (fun w1 ⟨x0, x1, x2, y0, y2, z0, z1, z2, _⟩ => ?qdy36) ?_
 case qdy36 => go_simp; try rfl
 simp only [Act.put, List.setIfInBounds_toArray, List.set_cons_succ, List.set_cons_zero]
 refine oneH 37 (by rfl) (by kernel_rfl) (fun K hK => ?_)
 gi_wp2_with (gi_at_call 61; refine (callsIn_wide.2 (HSM.out wa HBA.out)).mono ?_; rintro e9 wb ⟨rfl, b9⟩)
 have HBB := Lib.hid (below5 HBA.out b9)
 replace hS := HCS.out wb HBB.out
 refine hK _ _ (fun _ => hS) ?_
 clear hK K b9
 refine tH 38 ?qev38 hS (fun w1 ⟨x0, x1, x2, y0, y2, z0, z1, z2, _⟩ => ?qey38) ?_
 case qey38 => go_simp; try rfl
 refine tH 39 ?qev39 hS (fun w1 ⟨x0, x1, x2, y0, y2, z0, z1, z2, _⟩ => ?qey39) ?_
 case qey39 => go_simp; try rfl
 simp only [Act.put, List.setIfInBounds_toArray, List.set_cons_succ, List.set_cons_zero]
 refine oneH 40 (by rfl) (by kernel_rfl) (fun K hK => ?_)
 gi_wp2_with (gi_at_call 45; refine (callsIn_wide.2 (ckWord_any 3 (by decide) wb)).mono ?_; rintro e9 wc ⟨rfl, b9⟩)
 have HBC := Lib.hid (below5 HBB.out b9)
 replace hS := HCS.out wc HBC.out
 refine hK _ _ (fun _ => hS) ?_
 clear hK K b9
 refine tH 41 ?qfv41 hS (fun w1 ⟨x0, x1, x2, y0, y2, z0, z1, z2, _⟩ => ?qfy41) ?_
 case qfy41 => go_simp; try rfl
 refine tH 42 ?qfv42 hS (fun w1 ⟨x0, x1, x2, y0, y2, z0, z1, z2, _⟩ => ?qfy42) ?_
 case qfy42 => go_simp; try rfl
 refine tH 43 ?qfv43 hS (fun w1 ⟨x0, x1, x2, y0, y2, z0, z1, z2, _⟩ => ?qfy43) ?_
 case qfy43 => go_simp; try rfl
 simp only [Act.put, List.setIfInBounds_toArray, List.set_cons_succ, List.set_cons_zero]
 refine oneH 44 (by rfl) (by kernel_rfl) (fun K hK => ?_)
 gi_wp2_with (gi_at_call 45; refine (callsIn_wide.2 (ckWord_any 0 (by decide) wc)).mono ?_; rintro e9 wd ⟨rfl, b9⟩)
 have HBD := Lib.hid (below5 HBC.out b9)
 replace hS := HCS.out wd HBD.out
 refine hK _ _ (fun _ => hS) ?_
 clear hK K b9
 refine tH 45 ?qgv45 hS (fun w1 ⟨x0, x1, x2, y0, y2, z0, z1, z2, _⟩ => ?qgy45) ?_
 case qgy45 => go_simp; try rfl
 refine tH 46 ?qgv46 hS (fun w1 ⟨x0, x1, x2, y0, y2, z0, z1, z2, _⟩ => ?qgy46) ?_
 case qgy46 => go_simp; try rfl
 refine tH 47 ?qgv47 hS (fun w1 ⟨x0, x1, x2, y0, y2, z0, z1, z2, _⟩ => ?qgy47) ?_
 case qgy47 => go_simp; try rfl
 refine tH 48 ?qgv48 hS (fun w1 ⟨x0, x1, x2, y0, y2, z0, z1, z2, _⟩ => ?qgy48) ?_
 case qgy48 => go_simp; try rfl
 refine tH 49 ?qgv49 hS (fun w1 ⟨x0, x1, x2, y0, y2, z0, z1, z2, _⟩ => ?qgy49) ?_
 case qgy49 => go_simp; try rfl
 refine tH 50 ?qgv50 hS (fun w1 ⟨x0, x1, x2, y0, y2, z0, z1, z2, _⟩ => ?qgy50) ?_
 case qgy50 => go_simp; try rfl
 refine tH 51 ?qgv51 hS (fun w1 ⟨x0, x1, x2, y0, y2, z0, z1, z2, _⟩ => ?qgy51) ?_
 case qgy51 => go_simp; try rfl
 refine tH 52 ?qgv52 hS (fun w1 ⟨x0, x1, x2, y0, y2, z0, z1, z2, _⟩ => ?qgy52) ?_
 case qgy52 => go_simp; try rfl
 refine tH 53 ?qgv53 hS (fun w1 ⟨x0, x1, x2, y0, y2, z0, z1, z2, _⟩ => ?qgy53) ?_
 case qgy53 => go_simp; try rfl
 simp only [Act.put, List.setIfInBounds_toArray, List.set_cons_succ, List.set_cons_zero]
 refine oneH 54 (by rfl) (by kernel_rfl) (fun K hK => ?_)
 gi_wp2_with (gi_at_call 44; refine (callsIn_wide.2 (HCM.out wd HBD.out)).mono ?_; rintro e9 we ⟨rfl, b9⟩)
 have HBE := Lib.hid (below5 HBD.out b9)
 replace hS := HCS.out we HBE.out
 refine hK _ _ (fun _ => hS) ?_
 clear hK K b9
 have hzd : decide (zc < 0) = true := by simp [hxz]
 refine tH 55 ?qhv55 hS (fun w1 ⟨x0, x1, x2, y0, y2, z0, z1, z2, _⟩ => ?qhy55) ?_
 case qhy55 => go_simp; try rfl
 refine tH 56 ?qhv56 hS (fun w1 ⟨x0, x1, x2, y0, y2, z0, z1, z2, _⟩ => ?qhy56) ?_
 case qhy56 => go_simp; try rfl
 simp only [Act.put, List.setIfInBounds_toArray, List.set_cons_succ, List.set_cons_zero]
 refine oneH 57 (by rfl) (by kernel_rfl) (fun K hK => ?_)
 gi_wp2_with fail
 refine hK _ _ (fun h => absurd h (by decide)) ?_
 clear hK K
 refine doneH (by kernel_rfl) ?_
 clear hS
 gi_wp2_with fail
 go_ret
 exact ⟨rfl, below5 HB2.out HBE.out⟩
end Go.Proofs.YtneghhbclefmoaaGreat
