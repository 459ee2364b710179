/- Data: which of two stands first, by the document. -/
import Derived.Test.YtgmbefolgppmdaaGreatDoorKRcL
import Derived.Test.YtgmbefolgppmdaaGreatDoorKRcO
import Derived.Laws.BytesArg
import Derived.Test.YtgmbefolgppmdaaGreatDoorKReg
namespace Go.Proofs.YtgmbefolgppmdaaGreatDoor
open Go.RowKit Go.Shelf
set_option maxRecDepth 100000
theorem conv_bt {v : Value} {l : List UInt8} {W : World} (h : BtRd v l W) : (convert 27 9 v).run Tryz.prog W = .ok (S l) W := by
 obtain ⟨o, cap, rfl, h1, h2, h3, h4⟩ := h
 cases o with
 | none =>
  have h0 := h3 rfl
  have : l = [] := List.length_eq_zero_iff.1 (by simp at h1; omega)
  subst this
  exact run_convert_bytes_nil _ _ 5 Tryz.underlying27 Tryz.underlying5 _ _ _ Tryz.underlying9
 | some a =>
  rw [List.length_map]
  refine run_convert_bytes_back _ _ _ 5 _ _ l Tryz.underlying27 Tryz.underlying5 Tryz.underlying9 (fun j hj => ?_)
  obtain ⟨a', ha, hc⟩ := h4 j (by simpa using hj)
  cases ha
  rw [hc]; simp
theorem Rc.row_step {α : Type} {f : α -> α -> Int} {a b : List α} {k : Nat} (ha : k < a.length) (hb : k < b.length) : Rc.row f (a.drop k) (b.drop k) = if f a[k] b[k] ≠ 0 then f a[k] b[k] else Rc.row f (a.drop (k + 1)) (b.drop (k + 1)) := by
 rw [List.drop_eq_getElem_cons ha, List.drop_eq_getElem_cons hb]; rfl
theorem Rc.row_end {α : Type} {f : α -> α -> Int} {a b : List α} {k : Nat} (ha : k <= a.length) (hb : k <= b.length) (h : a.length <= k \/ b.length <= k) : Rc.row f (a.drop k) (b.drop k) = Nm.sgn ((a.length : Int) - b.length) 0 := by
 have la : (a.drop k).length = a.length - k := by simp
 have lb : (b.drop k).length = b.length - k := by simp
 rcases ha' : a.drop k with _ | ⟨x, xs⟩ <;> rcases hb' : b.drop k with _ | ⟨y, ys⟩ <;> rw [ha'] at la <;> rw [hb'] at lb <;> simp only [List.length_cons, List.length_nil] at la lb <;> simp only [Rc.row]
 ·unfold Nm.sgn; rw [if_neg (by omega), if_neg (by omega)]
 ·unfold Nm.sgn; rw [if_pos (by omega)]
 ·unfold Nm.sgn; rw [if_neg (by omega), if_pos (by omega)]
 ·omega
set_option maxHeartbeats 1000000 in
theorem apart_any (x y : Int) (w : World) : Calls Tryz.prog 47 #[.int .i64 x, .int .i64 y] w fun e w' => e = .returned (.int .i64 (Nm.sgn x y)) /\ w = w' := by
 rcases Int.lt_trichotomy x y with h | h | h
 ·have H := Lib.hid (show Nm.sgn x y = -1 by unfold Nm.sgn; rw [if_pos h])
  go_enter Tryz.func47, Tryz.ntmps47
  go_wp2
  go_ret
  exact ⟨by rw [H.out]; rfl, rfl⟩
 ·subst h
  have H := Lib.hid (show Nm.sgn x x = 0 by unfold Nm.sgn; simp)
  go_enter Tryz.func47, Tryz.ntmps47
  go_wp2
  go_ret
  exact ⟨by rw [H.out]; rfl, rfl⟩
 ·have H := Lib.hid (show Nm.sgn x y = 1 by unfold Nm.sgn; rw [if_neg (by omega), if_pos h])
  have h2 : ¬ x < y := by omega
  go_enter Tryz.func47, Tryz.ntmps47
  go_wp2
  go_ret
  exact ⟨by rw [H.out]; rfl, rfl⟩
theorem Rc.orI_left {x y : Int} (h : x ≠ 0) : Rc.orI x y = x := if_pos h
theorem Rc.orI_right (y : Int) : Rc.orI 0 y = y := if_neg (by simp)
theorem sgn_ne {m n : Nat} (h : m ≠ n) : Nm.sgn ((m : Int) - n) 0 ≠ 0 := by unfold Nm.sgn; split <;> (try split) <;> omega
set_option maxHeartbeats 8000000 in
theorem refCompareData_any (va vb : List Value) (a b : Rc.PRec) (w : World) (ha : DatRd va a w) (hb : DatRd vb b w) (na : RB a) (nb : RB b) :
  Calls Tryz.prog 22 #[.agg va.toArray, .agg vb.toArray] w (Gives (.int .i64 (Rc.cmpD a b)) w) := by
 obtain ⟨vn, vm, vt, vr, rfl, ⟨us, u1, u2, u3⟩, a2, a3, a4⟩ := ha
 obtain ⟨yn, ym, yt, yr, rfl, ⟨vs, v1, v2, v3⟩, b2, b3, b4⟩ := hb
 obtain ⟨pa1, qa1, rfl, ca1, cb1⟩ := u2.form
 obtain ⟨pa2, qa2, rfl, ca2, cb2⟩ := a2.form
 obtain ⟨pa3, qa3, rfl, ca3, cb3⟩ := a3.form
 obtain ⟨pa4, qa4, rfl, _, _⟩ := Sl.form a4
 obtain ⟨pb1, qb1, rfl, cc1, cd1⟩ := v2.form
 obtain ⟨pb2, qb2, rfl, cc2, cd2⟩ := b2.form
 obtain ⟨pb3, qb3, rfl, cc3, cd3⟩ := b3.form
 obtain ⟨pb4, qb4, rfl, _, _⟩ := Sl.form b4
 have la2 : (numC a.nums).length = a.nums.length := by simp [numC]
 have lb2 : (numC b.nums).length = b.nums.length := by simp [numC]
 obtain ⟨m4, hm4⟩ : ∃ m, (a.raw.map fun b : UInt8 => Value.int .u8 (b.toNat : Int)).length = m := ⟨_, rfl⟩
 obtain ⟨n4, hn4⟩ : ∃ m, (b.raw.map fun b : UInt8 => Value.int .u8 (b.toNat : Int)).length = m := ⟨_, rfl⟩
 have hm4' := hm4
 have hn4' := hn4
 have A1 := Lib.hid u2
 have A2 := Lib.hid a2
 have A3 := Lib.hid a3
 have A4 := Lib.hid a4
 have B1 := Lib.hid v2
 have B2 := Lib.hid b2
 have B3 := Lib.hid b3
 have B4 := Lib.hid b4
 rw [hm4] at A4 ⊢
 rw [hn4] at B4 ⊢
 obtain ⟨m1, hm1⟩ : ∃ m, us.length = m := ⟨_, rfl⟩
 obtain ⟨n1, hn1⟩ : ∃ m, vs.length = m := ⟨_, rfl⟩
 obtain ⟨m2, hm2⟩ : ∃ m, (numC a.nums).length = m := ⟨_, rfl⟩
 obtain ⟨n2, hn2⟩ : ∃ m, (numC b.nums).length = m := ⟨_, rfl⟩
 obtain ⟨m3, hm3⟩ : ∃ m, a.texts.length = m := ⟨_, rfl⟩
 obtain ⟨n3, hn3⟩ : ∃ m, b.texts.length = m := ⟨_, rfl⟩
 rw [hm1] at A1 ca1 ⊢
 rw [hn1] at B1 cc1 ⊢
 rw [hm2] at A2 ca2 ⊢
 rw [hn2] at B2 cc2 ⊢
 rw [hm3] at A3 ca3 ⊢
 rw [hn3] at B3 cc3 ⊢
 have HL1 : Hid (us.length = m1 /\ a.names.length = m1 /\ vs.length = n1 /\ b.names.length = n1) := ⟨hm1, by rw [<- u1]; exact hm1, hn1, by rw [<- v1]; exact hn1⟩
 have HL2 : Hid ((numC a.nums).length = m2 /\ a.nums.length = m2 /\ (numC b.nums).length = n2 /\ b.nums.length = n2) := ⟨hm2, by rw [<- la2]; exact hm2, hn2, by rw [<- lb2]; exact hn2⟩
 have HL3 : Hid (a.texts.length = m3 /\ b.texts.length = n3) := ⟨hm3, hn3⟩
 have HU := Lib.hid u3
 have HV := Lib.hid v3
 have NA := Lib.hid na
 have NB' := Lib.hid nb
 have z1 : (m1 : Int) <= 1000 := by have := na.names.1; omega
 have z2 : (n1 : Int) <= 1000 := by have := nb.names.1; omega
 have z3 : (m2 : Int) <= 1000 := by have := na.nums.1; omega
 have z4 : (n2 : Int) <= 1000 := by have := nb.nums.1; omega
 have z5 : (m3 : Int) <= 1000 := by have := na.texts; omega
 have z6 : (n3 : Int) <= 1000 := by have := nb.texts; omega
 unfold maxLen at cb1 cd1 cb2 cd2
 obtain ⟨ta, hta⟩ : ∃ t, a.type = t := ⟨_, rfl⟩
 obtain ⟨tb, htb⟩ : ∃ t, b.type = t := ⟨_, rfl⟩
 have hcd : Rc.cmpD a b = Rc.orI (Nm.sgn ta tb) (Rc.orI (Rc.row Nm.cmp a.names b.names) (Rc.orI (Rc.row (fun x y : Nat => Nm.sgn x y) a.nums b.nums) (Rc.orI (Rc.row Lib.compareBytes a.texts b.texts) (Lib.compareBytes a.raw b.raw)))) := by rw [<- hta, <- htb]; rfl
 rw [hta, htb]
 obtain ⟨W0, hW0⟩ : ∃ W, (w.alloc (.cells #[.int .i64 ta, .slice pa1 m1 qa1, .slice pa2 m2 qa2, .slice pa3 m3 qa3, .slice pa4 m4 qa4] 38)).alloc (.cells #[.int .i64 tb, .slice pb1 n1 qb1, .slice pb2 n2 qb2, .slice pb3 n3 qb3, .slice pb4 n4 qb4] 38) = W := ⟨_, rfl⟩
 have hb0 : Below w.heap.size w W0 := by rw [<- hW0]; exact ((Below.refl _ _).alloc (Nat.le_refl _) _).alloc (by simp) _
 have HBX : Hid (∀ W', Below W0.heap.size W0 W' -> Bx5 w.heap.size (.int .i64 ta) (.slice pa1 m1 qa1) (.slice pa2 m2 qa2) (.slice pa3 m3 qa3) (.slice pa4 m4 qa4) W' /\ Bx5 (w.heap.size + 1) (.int .i64 tb) (.slice pb1 n1 qb1) (.slice pb2 n2 qb2) (.slice pb3 n3 qb3) (.slice pb4 n4 qb4) W') := fun W' hW => by
  have h1 : W0.heap[w.heap.size]? = some (.cells #[.int .i64 ta, .slice pa1 m1 qa1, .slice pa2 m2 qa2, .slice pa3 m3 qa3, .slice pa4 m4 qa4] 38 (0, 0)) := by
   rw [<- hW0]; exact (two_boxes w _ _ _ _).1
  have h2 : W0.heap[w.heap.size + 1]? = some (.cells #[.int .i64 tb, .slice pb1 n1 qb1, .slice pb2 n2 qb2, .slice pb3 n3 qb3, .slice pb4 n4 qb4] 38 (0, 0)) := by
   rw [<- hW0]; exact (two_boxes w _ _ _ _).2
  exact ⟨(Bx5.of h1).below hW, (Bx5.of h2).below hW⟩
 have HB0 := Lib.hid hb0
 have HW0 := Lib.hid hW0
 have HM4 : Hid (a.raw.length = m4 /\ b.raw.length = n4) := ⟨by rw [<- hm4']; simp, by rw [<- hn4']; simp⟩
 clear hm1 hn1 hm2 hn2 hm3 hn3 hm4 hn4 hm4' hn4' u1 u2 u3 v1 v2 v3 a2 a3 a4 b2 b3 b4 na nb hta htb hb0 hW0 la2 lb2
 by_cases ht : ta = tb
 case neg =>
  have HF : Hid (Rc.cmpD a b = Nm.sgn ta tb) := by
   show _ = _
   rw [hcd]
   refine Rc.orI_left (fun h => ht ?_)
   exact Rc.sgn_zero h
  clear hcd
  have h1 : (ta != tb) = true := by simp [ht]
  refine (callsIn_wide (n := 0)).1 ?_
  refine callsIn_of_wp Tryz.func22 rfl trivial ?_ rfl
  simp only [Tryz.ntmps22, List.size_toArray, List.length_cons, List.length_nil, Nat.reduceAdd, Nat.reduceSub, Array.replicate_succ, Array.replicate_zero, List.push_toArray, List.append_toArray, List.nil_append, List.cons_append]
  gi_wp2_with (gi_at_call 47; refine (callsIn_wide.2 (apart_any _ _ _)).mono ?_; rintro e w1 ⟨rfl, rfl⟩)
  go_ret
  exact ⟨by rw [HF.out]; rfl, by rw [HW0.out]; exact HB0.out⟩
 case pos =>
  subst ht
  have HC : Hid (Rc.cmpD a b = Rc.orI (Rc.row Nm.cmp a.names b.names) (Rc.orI (Rc.row (fun x y : Nat => Nm.sgn x y) a.nums b.nums) (Rc.orI (Rc.row Lib.compareBytes a.texts b.texts) (Lib.compareBytes a.raw b.raw)))) := by
   show _ = _
   rw [hcd, show Nm.sgn ta ta = 0 by unfold Nm.sgn; simp, Rc.orI_right]
  clear hcd
  refine (callsIn_wide (n := 0)).1 ?_
  refine callsIn_of_wp Tryz.func22 rfl trivial ?_ rfl
  simp only [Tryz.ntmps22, List.size_toArray, List.length_cons, List.length_nil, Nat.reduceAdd, Nat.reduceSub, Array.replicate_succ, Array.replicate_zero, List.push_toArray, List.append_toArray, List.nil_append, List.cons_append]
  gi_wp2_with fail
  rw [HW0.out]
  clear HW0
  gi_loopw [5, 6] (fun v5 _ W => ∃ k : Nat, Hid (k <= m1 /\ k <= n1 /\ Rc.row Nm.cmp a.names b.names = Rc.row Nm.cmp (a.names.drop k) (b.names.drop k)) /\ v5 = .int .i64 k /\ Below W0.heap.size W0 W) (fun v5 _ _ => m1 - (intOf v5).toNat)
  case atStart => exact ⟨0, ⟨Nat.zero_le _, Nat.zero_le _, rfl⟩, rfl, Below.refl _ _⟩
  case round =>
   obtain ⟨k, HK, rfl, hb⟩ := hrel
   obtain ⟨⟨x0, x1, x2, x3, x4⟩, y0, y1, y2, y3, y4⟩ := HBX.out _ hb
   have HBL := Lib.hid hb
   by_cases hlt : k < m1 /\ k < n1
   ·obtain ⟨hl1, hl2⟩ := hlt
    have hz1 : (k : Int) < (m1 : Int) := by omega
    have hz2 : (k : Int) < (n1 : Int) := by omega
    have ka : k < a.names.length := by rw [HL1.out.2.1]; exact hl1
    have kb : k < b.names.length := by rw [HL1.out.2.2.2]; exact hl2
    have HST := Lib.hid (Rc.row_step (f := Nm.cmp) ka kb)
    obtain ⟨z, hz⟩ : ∃ z, Nm.cmp a.names[k] b.names[k] = z := ⟨_, rfl⟩
    have kua : k < us.length := by rw [HL1.out.1]; exact hl1
    have kvb : k < vs.length := by rw [HL1.out.2.2.1]; exact hl2
    obtain ⟨ga, rfl, e1⟩ := A1.out.cells _ (below5 HB0.out hb) k kua
    obtain ⟨gb, rfl, e2⟩ := B1.out.cells _ (below5 HB0.out hb) k kvb
    have hra := HU.out k kua ka
    have hrb := HV.out k kvb kb
    obtain ⟨ua, hua⟩ : ∃ u, us[k] = u := ⟨_, rfl⟩
    obtain ⟨ub, hub⟩ : ∃ u, vs[k] = u := ⟨_, rfl⟩
    rw [hua] at e1 hra
    rw [hub] at e2 hrb
    obtain ⟨oa, ca, rfl, _, _⟩ := hra.form
    obtain ⟨ob, cb, rfl, _, _⟩ := hrb.form
    have HCM := Lib.hid (fun W' (hW : Below w.heap.size w W') => refCompareN_any _ _ a.names[k] b.names[k] W' (hra.below hW) (hrb.below hW) (NA.out.names.2 _ (List.getElem_mem ka)) (NB'.out.names.2 _ (List.getElem_mem kb)))
    rw [hz] at HCM
    obtain ⟨sa, hsa⟩ : ∃ s, a.names[k].length = s := ⟨_, rfl⟩
    obtain ⟨sb, hsb⟩ : ∃ s, b.names[k].length = s := ⟨_, rfl⟩
    rw [hsa] at e1 HCM
    rw [hsb] at e2 HCM
    obtain ⟨ea, hea⟩ : ∃ q, ga.add k = q := ⟨_, rfl⟩
    obtain ⟨eb, heb⟩ : ∃ q, gb.add k = q := ⟨_, rfl⟩
    rw [hea] at e1
    rw [heb] at e2
    have HZ := Lib.hid hz
    clear hra hrb hua hub hsa hsb hz hb x0 x2 x3 x4 y0 y2 y3 y4
    gi_wp2_with fail
    refine drawnH (List.range 11) (fun w' => w'.cell? ⟨w.heap.size, 1, none⟩ = some (.slice (some ga) m1 qa1) /\ w'.cell? ⟨w.heap.size + 1, 1, none⟩ = some (.slice (some gb) n1 qb1) /\ w'.cell? ea = some (.slice oa sa ca) /\ w'.cell? eb = some (.slice ob sb cb)) 12 rfl (by kernel_rfl) ?_
    intro wa hwa
    have hS : wa.cell? ⟨w.heap.size, 1, none⟩ = some (.slice (some ga) m1 qa1) /\ wa.cell? ⟨w.heap.size + 1, 1, none⟩ = some (.slice (some gb) n1 qb1) /\ wa.cell? ea = some (.slice oa sa ca) /\ wa.cell? eb = some (.slice ob sb cb) := by subst hwa; exact ⟨x1, y1, e1, e2⟩
    have HBA : Hid (Below W0.heap.size W0 wa) := by subst hwa; exact HBL.out.drew
    clear hwa x1 y1 e1 e2
    refine tH 0 ?q1v0 hS (fun w1 ⟨x1, y1, e1, e2⟩ => ?q1y0) ?_
    case q1y0 => go_simp; try rfl
    refine tH 1 ?q1v1 hS (fun w1 ⟨x1, y1, e1, e2⟩ => ?q1y1) ?_
    case q1y1 => go_simp; try rfl
    refine tH 2 ?q1v2 hS (fun w1 ⟨x1, y1, e1, e2⟩ => ?q1y2) ?_
    case q1y2 => go_simp; try rfl
    refine tH 3 ?q1v3 hS (fun w1 ⟨x1, y1, e1, e2⟩ => ?q1y3) ?_
    case q1y3 => go_simp; try rfl
    refine tH 4 ?q1v4 hS (fun w1 ⟨x1, y1, e1, e2⟩ => ?q1y4) ?_
    case q1y4 => go_simp; try rfl
    refine tH 5 ?q1v5 hS (fun w1 ⟨x1, y1, e1, e2⟩ => ?q1y5) ?_
    case q1y5 => go_simp; try rfl
    refine tH 6 ?q1v6 hS (fun w1 ⟨x1, y1, e1, e2⟩ => ?q1y6) ?_
    case q1y6 => go_simp; try rfl
    refine tH 7 ?q1v7 hS (fun w1 ⟨x1, y1, e1, e2⟩ => ?q1y7) ?_
    case q1y7 => go_simp; try rfl
    simp only [Act.put, List.setIfInBounds_toArray, List.set_cons_succ, List.set_cons_zero]
    refine tH 8 ?q1v8 hS (fun w1 ⟨x1, y1, e1, e2⟩ => ?q1y8) ?_
    case q1y8 => go_simp; try rfl
    refine tH 9 ?q1v9 hS (fun w1 ⟨x1, y1, e1, e2⟩ => ?q1y9) ?_
    case q1y9 => go_simp; try rfl
    simp only [Act.put, List.setIfInBounds_toArray, List.set_cons_succ, List.set_cons_zero]
    refine oneH 10 (by rfl) (by kernel_rfl) (fun K hK => ?_)
    gi_wp2_with (gi_at_call 21; refine (callsIn_wide.2 (HCM.out wa (below5 HB0.out HBA.out))).mono ?_; rintro e w1 ⟨rfl, b1⟩)
    refine hK _ _ (fun _ => ⟨(b1.cell (cell_lt hS.1)).trans hS.1, (b1.cell (cell_lt hS.2.1)).trans hS.2.1, (b1.cell (cell_lt hS.2.2.1)).trans hS.2.2.1, (b1.cell (cell_lt hS.2.2.2)).trans hS.2.2.2⟩) ?_
    clear hK K hS
    have HBB := Lib.hid (below5 HBA.out b1)
    refine oneH 11 (by rfl) (by kernel_rfl) (fun K hK => ?_)
    gi_wp2_with fail
    refine hK _ _ (fun h => absurd h (by decide)) ?_
    clear hK K b1 hea heb
    refine doneH (by kernel_rfl) ?_
    by_cases h0 : z = 0
    ·subst h0
     gi_wp2_with fail
     refine ⟨⟨k + 1, ⟨hl1, hl2, ?_⟩, by go_num, HBB.out⟩, by simp [intOf]; omega⟩
     rw [HK.out.2.2, HST.out, if_neg (by rw [HZ.out]; simp)]
    ·have h1 : (z != 0) = true := by simp [h0]
     gi_wp2_with fail
     go_ret
     refine ⟨?_, below5 HB0.out HBB.out⟩
     rw [HC.out, HK.out.2.2, HST.out, if_pos (by rw [HZ.out]; exact h0), HZ.out, Rc.orI_left h0]; rfl
   ·have HEND : Hid (Rc.row Nm.cmp a.names b.names = Nm.sgn ((m1 : Int) - (n1 : Int)) 0) := by
     show _ = _
     have h1 := HK.out
     rw [h1.2.2, Rc.row_end (by rw [HL1.out.2.1]; exact h1.1) (by rw [HL1.out.2.2.2]; exact h1.2.1) (by rw [HL1.out.2.1, HL1.out.2.2.2]; omega), HL1.out.2.1, HL1.out.2.2.2]
    have hw : IntKind.i64.wrap ((m1 : Int) - (n1 : Int)) = (m1 : Int) - (n1 : Int) := IntWalk.i64_in _ (by omega)
    by_cases hmn : m1 = n1
    ·subst hmn
     have hk : k = m1 := by have h1 := HK.out; omega
     have hz1 : ¬ (k : Int) < (m1 : Int) := by omega
     have HZ0 : Hid (Rc.row Nm.cmp a.names b.names = 0) := by show _ = _; rw [HEND.out, Int.sub_self]; rfl
     replace HC := Lib.hid (HC.out.trans (by rw [HZ0.out, Rc.orI_right]))
     have HBL2 := Lib.hid HBL.out
     clear hb hlt hw hk
     gi_wp2_with fail
     clear x0 x1 x2 x3 x4 y0 y1 y2 y3 y4
     gi_loopw [7] (fun v7 W => ∃ k : Nat, Hid (k <= m2 /\ k <= n2 /\ Rc.row (fun x y : Nat => Nm.sgn x y) a.nums b.nums = Rc.row (fun x y : Nat => Nm.sgn x y) (a.nums.drop k) (b.nums.drop k)) /\ v7 = .int .i64 k /\ Below W0.heap.size W0 W) (fun v7 _ => m2 - (intOf v7).toNat)
     case atStart => exact ⟨0, ⟨Nat.zero_le _, Nat.zero_le _, rfl⟩, rfl, HBL2.out⟩
     case round =>
      obtain ⟨k, HK, rfl, hb⟩ := hrel
      obtain ⟨⟨x0, x1, x2, x3, x4⟩, y0, y1, y2, y3, y4⟩ := HBX.out _ hb
      have HBL := Lib.hid hb
      by_cases hlt : k < m2 /\ k < n2
      ·obtain ⟨hl1, hl2⟩ := hlt
       have hz1 : (k : Int) < (m2 : Int) := by omega
       have hz2 : (k : Int) < (n2 : Int) := by omega
       have ka : k < a.nums.length := by rw [HL2.out.2.1]; exact hl1
       have kb : k < b.nums.length := by rw [HL2.out.2.2.2]; exact hl2
       have HST := Lib.hid (Rc.row_step (f := (fun x y : Nat => Nm.sgn x y)) ka kb)
       obtain ⟨z, hz⟩ : ∃ z, Nm.sgn (a.nums[k] : Int) (b.nums[k] : Int) = z := ⟨_, rfl⟩
       have kua : k < (numC a.nums).length := by rw [HL2.out.1]; exact hl1
       have kvb : k < (numC b.nums).length := by rw [HL2.out.2.2.1]; exact hl2
       obtain ⟨ga, rfl, e1⟩ := A2.out.cells _ (below5 HB0.out hb) k kua
       obtain ⟨gb, rfl, e2⟩ := B2.out.cells _ (below5 HB0.out hb) k kvb
       simp only [numC, List.getElem_map] at e1 e2
       have la : a.nums[k] < 4294967296 := NA.out.nums.2 _ (List.getElem_mem ka)
       have lb : b.nums[k] < 4294967296 := NB'.out.nums.2 _ (List.getElem_mem kb)
       obtain ⟨ua, hua⟩ : ∃ u, a.nums[k] = u := ⟨_, rfl⟩
       obtain ⟨ub, hub⟩ : ∃ u, b.nums[k] = u := ⟨_, rfl⟩
       rw [hua] at e1 la hz
       rw [hub] at e2 lb hz
       have hsb := Nm.sgn_sub (ua : Int) (ub : Int)
       rw [hz] at hsb
       have HSB := Lib.hid hsb
       obtain ⟨ea, hea⟩ : ∃ q, ga.add k = q := ⟨_, rfl⟩
       obtain ⟨eb, heb⟩ : ∃ q, gb.add k = q := ⟨_, rfl⟩
       rw [hea] at e1
       rw [heb] at e2
       have HZ := Lib.hid (And.intro hz (And.intro hua hub))
       have laz : (ua : Int) < 4294967296 := by omega
       have lbz : (ub : Int) < 4294967296 := by omega
       clear hua hub hz hsb hb x0 x1 x3 x4 y0 y1 y3 y4
       gi_wp2_with fail
       refine drawnH (List.range 11) (fun w' => w'.cell? ⟨w.heap.size, 2, none⟩ = some (.slice (some ga) m2 qa2) /\ w'.cell? ⟨w.heap.size + 1, 2, none⟩ = some (.slice (some gb) n2 qb2) /\ w'.cell? ea = some (.int .u32 (ua : Int)) /\ w'.cell? eb = some (.int .u32 (ub : Int))) 11 rfl (by kernel_rfl) ?_
       intro wa hwa
       have hS : wa.cell? ⟨w.heap.size, 2, none⟩ = some (.slice (some ga) m2 qa2) /\ wa.cell? ⟨w.heap.size + 1, 2, none⟩ = some (.slice (some gb) n2 qb2) /\ wa.cell? ea = some (.int .u32 (ua : Int)) /\ wa.cell? eb = some (.int .u32 (ub : Int)) := by subst hwa; exact ⟨x2, y2, e1, e2⟩
       have HBA : Hid (Below W0.heap.size W0 wa) := by subst hwa; exact HBL.out.drew
       clear hwa x2 y2 e1 e2
       by_cases h0 : ua = ub
       ·subst h0
        refine tH 0 ?q2v0 hS (fun w1 ⟨x2, y2, e1, e2⟩ => ?q2y0) ?_
        case q2y0 => go_simp; try rfl
        refine tH 1 ?q2v1 hS (fun w1 ⟨x2, y2, e1, e2⟩ => ?q2y1) ?_
        case q2y1 => go_simp; try rfl
        refine tH 2 ?q2v2 hS (fun w1 ⟨x2, y2, e1, e2⟩ => ?q2y2) ?_
        case q2y2 => go_simp; try rfl
        refine tH 3 ?q2v3 hS (fun w1 ⟨x2, y2, e1, e2⟩ => ?q2y3) ?_
        case q2y3 => go_simp; try rfl
        refine tH 4 ?q2v4 hS (fun w1 ⟨x2, y2, e1, e2⟩ => ?q2y4) ?_
        case q2y4 => go_simp; try rfl
        refine tH 5 ?q2v5 hS (fun w1 ⟨x2, y2, e1, e2⟩ => ?q2y5) ?_
        case q2y5 => go_simp; try rfl
        refine tH 6 ?q2v6 hS (fun w1 ⟨x2, y2, e1, e2⟩ => ?q2y6) ?_
        case q2y6 => go_simp; try rfl
        refine tH 7 ?q2v7 hS (fun w1 ⟨x2, y2, e1, e2⟩ => ?q2y7) ?_
        case q2y7 => go_simp; try rfl
        simp only [Act.put, List.setIfInBounds_toArray, List.set_cons_succ, List.set_cons_zero]
        refine tH 8 ?q2v8 hS (fun w1 ⟨x2, y2, e1, e2⟩ => ?q2y8) ?_
        case q2y8 => go_simp; try rfl
        refine tH 9 ?q2v9 hS (fun w1 ⟨x2, y2, e1, e2⟩ => ?q2y9) ?_
        case q2y9 => go_simp; try rfl
        refine tH 10 ?q2v10 hS (fun w1 ⟨x2, y2, e1, e2⟩ => ?q2y10) ?_
        case q2y10 => go_simp; try rfl
        simp only [Act.put, List.setIfInBounds_toArray, List.set_cons_succ, List.set_cons_zero]
        refine doneH (by kernel_rfl) ?_
        gi_wp2_with fail
        refine ⟨⟨k + 1, ⟨hl1, hl2, ?_⟩, by go_num, HBA.out⟩, by simp [intOf]; omega⟩
        rw [HK.out.2.2, HST.out, if_neg (by rw [HZ.out.2.1, HZ.out.2.2]; unfold Nm.sgn; simp)]
       ·have h1 : ((ua : Int) != (ub : Int)) = true := by simp; omega
        have h2 : z ≠ 0 := fun e => h0 (by have := Rc.sgn_zero (HZ.out.1.trans e); omega)
        refine tH 0 ?q3v0 hS (fun w1 ⟨x2, y2, e1, e2⟩ => ?q3y0) ?_
        case q3y0 => go_simp; try rfl
        refine tH 1 ?q3v1 hS (fun w1 ⟨x2, y2, e1, e2⟩ => ?q3y1) ?_
        case q3y1 => go_simp; try rfl
        refine tH 2 ?q3v2 hS (fun w1 ⟨x2, y2, e1, e2⟩ => ?q3y2) ?_
        case q3y2 => go_simp; try rfl
        refine tH 3 ?q3v3 hS (fun w1 ⟨x2, y2, e1, e2⟩ => ?q3y3) ?_
        case q3y3 => go_simp; try rfl
        refine tH 4 ?q3v4 hS (fun w1 ⟨x2, y2, e1, e2⟩ => ?q3y4) ?_
        case q3y4 => go_simp; try rfl
        refine tH 5 ?q3v5 hS (fun w1 ⟨x2, y2, e1, e2⟩ => ?q3y5) ?_
        case q3y5 => go_simp; try rfl
        refine tH 6 ?q3v6 hS (fun w1 ⟨x2, y2, e1, e2⟩ => ?q3y6) ?_
        case q3y6 => go_simp; try rfl
        refine tH 7 ?q3v7 hS (fun w1 ⟨x2, y2, e1, e2⟩ => ?q3y7) ?_
        case q3y7 => go_simp; try rfl
        simp only [Act.put, List.setIfInBounds_toArray, List.set_cons_succ, List.set_cons_zero]
        refine tH 8 ?q3v8 hS (fun w1 ⟨x2, y2, e1, e2⟩ => ?q3y8) ?_
        case q3y8 => go_simp; try rfl
        refine tH 9 ?q3v9 hS (fun w1 ⟨x2, y2, e1, e2⟩ => ?q3y9) ?_
        case q3y9 => go_simp; try rfl
        refine tH 10 ?q3v10 hS (fun w1 ⟨x2, y2, e1, e2⟩ => ?q3y10) ?_
        case q3y10 => go_simp; try rfl
        simp only [Act.put, List.setIfInBounds_toArray, List.set_cons_succ, List.set_cons_zero]
        refine doneH (by kernel_rfl) ?_
        gi_wp2_with fail
        refine drawnH (List.range 14) (fun w' => w'.cell? ⟨w.heap.size, 2, none⟩ = some (.slice (some ga) m2 qa2) /\ w'.cell? ⟨w.heap.size + 1, 2, none⟩ = some (.slice (some gb) n2 qb2) /\ w'.cell? ea = some (.int .u32 (ua : Int)) /\ w'.cell? eb = some (.int .u32 (ub : Int))) 15 rfl (by kernel_rfl) ?_
        intro wb hwb
        replace hS : wb.cell? ⟨w.heap.size, 2, none⟩ = some (.slice (some ga) m2 qa2) /\ wb.cell? ⟨w.heap.size + 1, 2, none⟩ = some (.slice (some gb) n2 qb2) /\ wb.cell? ea = some (.int .u32 (ua : Int)) /\ wb.cell? eb = some (.int .u32 (ub : Int)) := by subst hwb; exact hS
        have HBB : Hid (Below W0.heap.size W0 wb) := by subst hwb; exact HBA.out.drew
        clear hwb
        refine tH 0 ?q4v0 hS (fun w1 ⟨x2, y2, e1, e2⟩ => ?q4y0) ?_
        case q4y0 => go_simp; try rfl
        refine tH 1 ?q4v1 hS (fun w1 ⟨x2, y2, e1, e2⟩ => ?q4y1) ?_
        case q4y1 => go_simp; try rfl
        refine tH 2 ?q4v2 hS (fun w1 ⟨x2, y2, e1, e2⟩ => ?q4y2) ?_
        case q4y2 => go_simp; try rfl
        refine tH 3 ?q4v3 hS (fun w1 ⟨x2, y2, e1, e2⟩ => ?q4y3) ?_
        case q4y3 => go_simp; try rfl
        refine tH 4 ?q4v4 hS (fun w1 ⟨x2, y2, e1, e2⟩ => ?q4y4) ?_
        case q4y4 => go_simp; try rfl
        refine tH 5 ?q4v5 hS (fun w1 ⟨x2, y2, e1, e2⟩ => ?q4y5) ?_
        case q4y5 => go_simp; try rfl
        refine tH 6 ?q4v6 hS (fun w1 ⟨x2, y2, e1, e2⟩ => ?q4y6) ?_
        case q4y6 => go_simp; try rfl
        refine tH 7 ?q4v7 hS (fun w1 ⟨x2, y2, e1, e2⟩ => ?q4y7) ?_
        case q4y7 => go_simp; try rfl
        simp only [Act.put, List.setIfInBounds_toArray, List.set_cons_succ, List.set_cons_zero]
        refine tH 8 ?q4v8 hS (fun w1 ⟨x2, y2, e1, e2⟩ => ?q4y8) ?_
        case q4y8 => go_simp; try rfl
        refine tH 9 ?q4v9 hS (fun w1 ⟨x2, y2, e1, e2⟩ => ?q4y9) ?_
        case q4y9 => go_simp; try rfl
        refine tH 10 ?q4v10 hS (fun w1 ⟨x2, y2, e1, e2⟩ => ?q4y10) ?_
        case q4y10 => go_simp; try rfl
        refine tH 11 ?q4v11 hS (fun w1 ⟨x2, y2, e1, e2⟩ => ?q4y11) ?_
        case q4y11 => go_simp; try rfl
        refine tH 12 ?q4v12 hS (fun w1 ⟨x2, y2, e1, e2⟩ => ?q4y12) ?_
        case q4y12 => go_simp; try rfl
        simp only [Act.put, List.setIfInBounds_toArray, List.set_cons_succ, List.set_cons_zero]
        refine oneH 13 (by rfl) (by kernel_rfl) (fun K hK => ?_)
        gi_wp2_with (gi_at_call 46; refine (callsIn_wide.2 (sign_any _ _)).mono ?_; rintro e w1 ⟨rfl, rfl⟩; rw [<- HSB.out])
        refine hK _ _ (fun _ => hS) ?_
        clear hK K hS
        refine oneH 14 (by rfl) (by kernel_rfl) (fun K hK => ?_)
        gi_wp2_with fail
        refine hK _ _ (fun h => absurd h (by decide)) ?_
        clear hK K hea heb
        refine doneH (by kernel_rfl) ?_
        gi_wp2_with fail
        go_ret
        refine ⟨?_, below5 HB0.out HBB.out⟩
        rw [HC.out, HK.out.2.2, HST.out, HZ.out.2.1, HZ.out.2.2, if_pos (by rw [HZ.out.1]; exact h2), HZ.out.1, Rc.orI_left h2]; rfl
      ·have HEND : Hid (Rc.row (fun x y : Nat => Nm.sgn x y) a.nums b.nums = Nm.sgn ((m2 : Int) - (n2 : Int)) 0) := by
        show _ = _
        have h1 := HK.out
        rw [h1.2.2, Rc.row_end (by rw [HL2.out.2.1]; exact h1.1) (by rw [HL2.out.2.2.2]; exact h1.2.1) (by rw [HL2.out.2.1, HL2.out.2.2.2]; omega), HL2.out.2.1, HL2.out.2.2.2]
       have hw : IntKind.i64.wrap ((m2 : Int) - (n2 : Int)) = (m2 : Int) - (n2 : Int) := IntWalk.i64_in _ (by omega)
       by_cases hmn : m2 = n2
       ·subst hmn
        have hk : k = m2 := by have h1 := HK.out; omega
        have hz1 : ¬ (k : Int) < (m2 : Int) := by omega
        have HZ0 : Hid (Rc.row (fun x y : Nat => Nm.sgn x y) a.nums b.nums = 0) := by show _ = _; rw [HEND.out, Int.sub_self]; rfl
        replace HC := Lib.hid (HC.out.trans (by rw [HZ0.out, Rc.orI_right]))
        have HBL3 := Lib.hid HBL.out
        clear hb hlt hw hk
        gi_wp2_with fail
        clear x0 x1 x2 x3 x4 y0 y1 y2 y3 y4
        gi_loopw [8, 9] (fun v8 _ W => ∃ k : Nat, Hid (k <= m3 /\ k <= n3 /\ Rc.row Lib.compareBytes a.texts b.texts = Rc.row Lib.compareBytes (a.texts.drop k) (b.texts.drop k)) /\ v8 = .int .i64 k /\ Below W0.heap.size W0 W) (fun v8 _ _ => m3 - (intOf v8).toNat)
        case atStart => exact ⟨0, ⟨Nat.zero_le _, Nat.zero_le _, rfl⟩, rfl, HBL3.out⟩
        case round =>
         obtain ⟨k, HK, rfl, hb⟩ := hrel
         obtain ⟨⟨x0, x1, x2, x3, x4⟩, y0, y1, y2, y3, y4⟩ := HBX.out _ hb
         have HBL := Lib.hid hb
         by_cases hlt : k < m3 /\ k < n3
         ·obtain ⟨hl1, hl2⟩ := hlt
          have hz1 : (k : Int) < (m3 : Int) := by omega
          have hz2 : (k : Int) < (n3 : Int) := by omega
          have ka : k < a.texts.length := by rw [HL3.out.1]; exact hl1
          have kb : k < b.texts.length := by rw [HL3.out.2]; exact hl2
          have HST := Lib.hid (Rc.row_step (f := Lib.compareBytes) ka kb)
          obtain ⟨z, hz⟩ : ∃ z, Lib.compareBytes a.texts[k] b.texts[k] = z := ⟨_, rfl⟩
          obtain ⟨ga, rfl, e1⟩ := A3.out.sl.cells _ (below5 HB0.out hb) k (by simpa using ka)
          obtain ⟨gb, rfl, e2⟩ := B3.out.sl.cells _ (below5 HB0.out hb) k (by simpa using kb)
          simp only [List.getElem_map] at e1 e2
          obtain ⟨ua, hua⟩ : ∃ u, a.texts[k] = u := ⟨_, rfl⟩
          obtain ⟨ub, hub⟩ : ∃ u, b.texts[k] = u := ⟨_, rfl⟩
          rw [hua] at e1 hz
          rw [hub] at e2 hz
          obtain ⟨ea, hea⟩ : ∃ q, ga.add k = q := ⟨_, rfl⟩
          obtain ⟨eb, heb⟩ : ∃ q, gb.add k = q := ⟨_, rfl⟩
          rw [hea] at e1
          rw [heb] at e2
          have HZ := Lib.hid (And.intro hz (And.intro hua hub))
          clear hua hub hz hb x0 x1 x2 x4 y0 y1 y2 y4
          gi_wp2_with fail
          refine drawnH (List.range 11) (fun w' => w'.cell? ⟨w.heap.size, 3, none⟩ = some (.slice (some ga) m3 qa3) /\ w'.cell? ⟨w.heap.size + 1, 3, none⟩ = some (.slice (some gb) n3 qb3) /\ w'.cell? ea = some (S ua) /\ w'.cell? eb = some (S ub)) 12 rfl (by kernel_rfl) ?_
          intro wa hwa
          have hS : wa.cell? ⟨w.heap.size, 3, none⟩ = some (.slice (some ga) m3 qa3) /\ wa.cell? ⟨w.heap.size + 1, 3, none⟩ = some (.slice (some gb) n3 qb3) /\ wa.cell? ea = some (S ua) /\ wa.cell? eb = some (S ub) := by subst hwa; exact ⟨x3, y3, e1, e2⟩
          have HBA : Hid (Below W0.heap.size W0 wa) := by subst hwa; exact HBL.out.drew
          clear hwa x3 y3 e1 e2
          refine tH 0 ?q5v0 hS (fun w1 ⟨x3, y3, e1, e2⟩ => ?q5y0) ?_
          case q5y0 => go_simp; try rfl
          refine tH 1 ?q5v1 hS (fun w1 ⟨x3, y3, e1, e2⟩ => ?q5y1) ?_
          case q5y1 => go_simp; try rfl
          refine tH 2 ?q5v2 hS (fun w1 ⟨x3, y3, e1, e2⟩ => ?q5y2) ?_
          case q5y2 => go_simp; try rfl
          refine tH 3 ?q5v3 hS (fun w1 ⟨x3, y3, e1, e2⟩ => ?q5y3) ?_
          case q5y3 => go_simp; try rfl
          refine tH 4 ?q5v4 hS (fun w1 ⟨x3, y3, e1, e2⟩ => ?q5y4) ?_
          case q5y4 => go_simp; try rfl
          refine tH 5 ?q5v5 hS (fun w1 ⟨x3, y3, e1, e2⟩ => ?q5y5) ?_
          case q5y5 => go_simp; try rfl
          refine tH 6 ?q5v6 hS (fun w1 ⟨x3, y3, e1, e2⟩ => ?q5y6) ?_
          case q5y6 => go_simp; try rfl
          refine tH 7 ?q5v7 hS (fun w1 ⟨x3, y3, e1, e2⟩ => ?q5y7) ?_
          case q5y7 => go_simp; try rfl
          simp only [Act.put, List.setIfInBounds_toArray, List.set_cons_succ, List.set_cons_zero]
          refine tH 8 ?q5v8 hS (fun w1 ⟨x3, y3, e1, e2⟩ => ?q5y8) ?_
          case q5y8 => go_simp; try rfl
          refine tH 9 ?q5v9 hS (fun w1 ⟨x3, y3, e1, e2⟩ => ?q5y9) ?_
          case q5y9 => go_simp; try rfl
          simp only [Act.put, List.setIfInBounds_toArray, List.set_cons_succ, List.set_cons_zero]
          refine oneH 10 (by rfl) (by kernel_rfl) (fun K hK => ?_)
          gi_wp2_with (gi_at_call 48; refine (callsIn_wide.2 (refOrder_any ua ub _)).mono ?_; rintro e w1 ⟨rfl, rfl⟩; rw [HZ.out.1])
          refine hK _ _ (fun _ => hS) ?_
          clear hK K hS
          refine oneH 11 (by rfl) (by kernel_rfl) (fun K hK => ?_)
          gi_wp2_with fail
          refine hK _ _ (fun h => absurd h (by decide)) ?_
          clear hK K hea heb
          refine doneH (by kernel_rfl) ?_
          by_cases h0 : z = 0
          ·subst h0
           gi_wp2_with fail
           refine ⟨⟨k + 1, ⟨hl1, hl2, ?_⟩, by go_num, HBA.out⟩, by simp [intOf]; omega⟩
           rw [HK.out.2.2, HST.out, HZ.out.2.1, HZ.out.2.2, if_neg (by rw [HZ.out.1]; simp)]
          ·have h1 : (z != 0) = true := by simp [h0]
           gi_wp2_with fail
           go_ret
           refine ⟨?_, below5 HB0.out HBA.out⟩
           rw [HC.out, HK.out.2.2, HST.out, HZ.out.2.1, HZ.out.2.2, if_pos (by rw [HZ.out.1]; exact h0), HZ.out.1, Rc.orI_left h0]; rfl
         ·have HEND : Hid (Rc.row Lib.compareBytes a.texts b.texts = Nm.sgn ((m3 : Int) - (n3 : Int)) 0) := by
           show _ = _
           have h1 := HK.out
           rw [h1.2.2, Rc.row_end (by rw [HL3.out.1]; exact h1.1) (by rw [HL3.out.2]; exact h1.2.1) (by rw [HL3.out.1, HL3.out.2]; omega), HL3.out.1, HL3.out.2]
          have hw : IntKind.i64.wrap ((m3 : Int) - (n3 : Int)) = (m3 : Int) - (n3 : Int) := IntWalk.i64_in _ (by omega)
          by_cases hmn : m3 = n3
          ·subst hmn
           have hk : k = m3 := by have h1 := HK.out; omega
           have hz1 : ¬ (k : Int) < (m3 : Int) := by omega
           have HZ0 : Hid (Rc.row Lib.compareBytes a.texts b.texts = 0) := by show _ = _; rw [HEND.out, Int.sub_self]; rfl
           replace HC := Lib.hid (HC.out.trans (by rw [HZ0.out, Rc.orI_right]))
           have HBL4 := Lib.hid HBL.out
           clear hb hlt hw hk
           have HCA := Lib.hid (conv_bt (A4.out.below (below5 HB0.out HBL.out)))
           have HCB := Lib.hid (conv_bt (B4.out.below (below5 HB0.out HBL.out)))
           have hca := HCA.out
           have hcb := HCB.out
           gi_wp2_with (gi_at_call 48; refine (callsIn_wide.2 (refOrder_any a.raw b.raw _)).mono ?_; rintro e w1 ⟨rfl, rfl⟩; rw [<- HC.out])
           go_ret
           exact ⟨rfl, below5 HB0.out HBL.out⟩
          ·have HNE := Lib.hid (sgn_ne hmn)
           have h1 : ((m3 : Int) != (n3 : Int)) = true := by simp; omega
           have h2 : Nm.sgn ((m3 : Int) - (n3 : Int)) 0 ≠ 0 := sgn_ne hmn
           have HFIN : Hid (Rc.cmpD a b = Nm.sgn ((m3 : Int) - (n3 : Int)) 0) := by show _ = _; rw [HC.out, HEND.out, Rc.orI_left h2]
           clear hb h2
           by_cases hl : k < m3
           ·have hz1 : (k : Int) < (m3 : Int) := by omega
            have hz2 : ¬ (k : Int) < (n3 : Int) := by omega
            gi_wp2_with (gi_at_call 46; refine (callsIn_wide.2 (sign_any _ _)).mono ?_; rintro e w1 ⟨rfl, rfl⟩; rw [<- HFIN.out])
            go_ret
            exact ⟨rfl, below5 HB0.out HBL.out⟩
           ·have hz1 : ¬ (k : Int) < (m3 : Int) := by omega
            gi_wp2_with (gi_at_call 46; refine (callsIn_wide.2 (sign_any _ _)).mono ?_; rintro e w1 ⟨rfl, rfl⟩; rw [<- HFIN.out])
            go_ret
            exact ⟨rfl, below5 HB0.out HBL.out⟩
       ·have HNE := Lib.hid (sgn_ne hmn)
        have h1 : ((m2 : Int) != (n2 : Int)) = true := by simp; omega
        have h2 : Nm.sgn ((m2 : Int) - (n2 : Int)) 0 ≠ 0 := sgn_ne hmn
        have HFIN : Hid (Rc.cmpD a b = Nm.sgn ((m2 : Int) - (n2 : Int)) 0) := by show _ = _; rw [HC.out, HEND.out, Rc.orI_left h2]
        clear hb h2
        by_cases hl : k < m2
        ·have hz1 : (k : Int) < (m2 : Int) := by omega
         have hz2 : ¬ (k : Int) < (n2 : Int) := by omega
         gi_wp2_with (gi_at_call 46; refine (callsIn_wide.2 (sign_any _ _)).mono ?_; rintro e w1 ⟨rfl, rfl⟩; rw [<- HFIN.out])
         go_ret
         exact ⟨rfl, below5 HB0.out HBL.out⟩
        ·have hz1 : ¬ (k : Int) < (m2 : Int) := by omega
         gi_wp2_with (gi_at_call 46; refine (callsIn_wide.2 (sign_any _ _)).mono ?_; rintro e w1 ⟨rfl, rfl⟩; rw [<- HFIN.out])
         go_ret
         exact ⟨rfl, below5 HB0.out HBL.out⟩
    ·have HNE := Lib.hid (sgn_ne hmn)
     have h1 : ((m1 : Int) != (n1 : Int)) = true := by simp; omega
     have h2 : Nm.sgn ((m1 : Int) - (n1 : Int)) 0 ≠ 0 := sgn_ne hmn
     have HFIN : Hid (Rc.cmpD a b = Nm.sgn ((m1 : Int) - (n1 : Int)) 0) := by show _ = _; rw [HC.out, HEND.out, Rc.orI_left h2]
     clear hb h2
     by_cases hl : k < m1
     ·have hz1 : (k : Int) < (m1 : Int) := by omega
      have hz2 : ¬ (k : Int) < (n1 : Int) := by omega
      gi_wp2_with (gi_at_call 46; refine (callsIn_wide.2 (sign_any _ _)).mono ?_; rintro e w1 ⟨rfl, rfl⟩; rw [<- HFIN.out])
      go_ret
      exact ⟨rfl, below5 HB0.out HBL.out⟩
     ·have hz1 : ¬ (k : Int) < (m1 : Int) := by omega
      gi_wp2_with (gi_at_call 46; refine (callsIn_wide.2 (sign_any _ _)).mono ?_; rintro e w1 ⟨rfl, rfl⟩; rw [<- HFIN.out])
      go_ret
      exact ⟨rfl, below5 HB0.out HBL.out⟩
end Go.Proofs.YtgmbefolgppmdaaGreatDoor
