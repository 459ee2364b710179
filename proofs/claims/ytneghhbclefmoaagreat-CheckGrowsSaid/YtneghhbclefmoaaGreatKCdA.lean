/- Data: which of two stands first, by the document. -/
import Derived.Test.YtneghhbclefmoaaGreatKRcL
import Derived.Test.YtneghhbclefmoaaGreatKRcO
import Derived.Laws.BytesArg
import Derived.Test.YtneghhbclefmoaaGreatKReg
import Derived.Test.YtneghhbclefmoaaGreatKSfA
section
namespace Go.Proofs.YtneghhbclefmoaaGreat
open Go.RowKit Go.Shelf
set_option maxRecDepth 100000
theorem conv_bt {v : Value} {l : List UInt8} {W : World} (h : BtRd v l W) : (convert 86 9 v).run Tryz.prog W = .ok (S l) W := by
 obtain ⟨o, cap, rfl, h1, h2, h3, h4⟩ := h
 cases o with
 | none =>
  have h0 := h3 rfl
  have : l = [] := List.length_eq_zero_iff.1 (by simp at h1; omega)
  subst this
  exact run_convert_bytes_nil _ _ 5 Tryz.underlying86 Tryz.underlying5 _ _ _ Tryz.underlying9
 | some a =>
  rw [List.length_map]
  refine run_convert_bytes_back _ _ _ 5 _ _ l Tryz.underlying86 Tryz.underlying5 Tryz.underlying9 (fun j hj => ?_)
  obtain ⟨a', ha, hc⟩ := h4 j (by simpa using hj)
  cases ha
  rw [hc]; simp
theorem Rc.row_step {α : Type} {f : α -> α -> Int} {a b : List α} {k : Nat} (ha : k < a.length) (hb : k < b.length) : Rc.row f (a.drop k) (b.drop k) = if f a[k] b[k] ≠ 0 then f a[k] b[k] else Rc.row f (a.drop (k + 1)) (b.drop (k + 1)) := by
 rw [List.drop_eq_getElem_cons ha, List.drop_eq_getElem_cons hb]; rfl
theorem Rc.row_end {α : Type} {f : α -> α -> Int} {a b : List α} {k : Nat} (ha : k <= a.length) (hb : k <= b.length) (h : a.length <= k \/ b.length <= k) : Rc.row f (a.drop k) (b.drop k) = Nm.sgn ((a.length : Int) - b.length) 0 := by
 have la : (a.drop k).length = a.length - k := by simp
 have lb : (b.drop k).length = b.length - k := by simp
 rcases ha' : a.drop k with _ | ⟨x, xs⟩ <;> rcases hb' : b.drop k with _ | ⟨y, ys⟩ <;> rw [ha'] at la <;> rw [hb'] at lb <;> simp only [List.length_cons, List.length_nil] at la lb <;> simp only [Rc.row]
 ·unfold Nm.sgn; rw [if_neg (by omega), if_neg (by omega)]
 ·unfold Nm.sgn; rw [if_pos (by omega)]
 ·unfold Nm.sgn; rw [if_neg (by omega), if_pos (by omega)]
 ·omega
set_option maxHeartbeats 1000000 in
theorem apart_any (x y : Int) (w : World) : Calls Tryz.prog 170 #[.int .i64 x, .int .i64 y] w fun e w' => e = .returned (.int .i64 (Nm.sgn x y)) /\ w = w' := by
 rcases Int.lt_trichotomy x y with h | h | h
 ·have H := Lib.hid (show Nm.sgn x y = -1 by unfold Nm.sgn; rw [if_pos h])
  go_enter Tryz.func170, Tryz.ntmps170
  go_wp2
  go_ret
  exact ⟨by rw [H.out]; rfl, rfl⟩
 ·subst h
  have H := Lib.hid (show Nm.sgn x x = 0 by unfold Nm.sgn; simp)
  go_enter Tryz.func170, Tryz.ntmps170
  go_wp2
  go_ret
  exact ⟨by rw [H.out]; rfl, rfl⟩
 ·have H := Lib.hid (show Nm.sgn x y = 1 by unfold Nm.sgn; rw [if_neg (by omega), if_pos h])
  have h2 : ¬ x < y := by omega
  go_enter Tryz.func170, Tryz.ntmps170
  go_wp2
  go_ret
  exact ⟨by rw [H.out]; rfl, rfl⟩
theorem Rc.orI_left {x y : Int} (h : x ≠ 0) : Rc.orI x y = x := if_pos h
theorem Rc.orI_right (y : Int) : Rc.orI 0 y = y := if_neg (by simp)
theorem sgn_ne {m n : Nat} (h : m ≠ n) : Nm.sgn ((m : Int) - n) 0 ≠ 0 := by unfold Nm.sgn; split <;> (try split) <;> omega
set_option maxHeartbeats 8000000 in
theorem refCompareData_any (va vb : List Value) (a b : Rc.PRec) (w : World) (ha : DatRd va a w) (hb : DatRd vb b w) (na : RB a) (nb : RB b) :
  Calls Tryz.prog 143 #[.agg va.toArray, .agg vb.toArray] w (Gives (.int .i64 (Rc.cmpD a b)) w) := by
 obtain ⟨vn, vm, vt, vr, rfl, ⟨us, u1, u2, u3⟩, a2, a3, a4⟩ := ha
 obtain ⟨yn, ym, yt, yr, rfl, ⟨vs, v1, v2, v3⟩, b2, b3, b4⟩ := hb
 obtain ⟨pa1, qa1, rfl, ca1, cb1⟩ := u2.form
 obtain ⟨pa2, qa2, rfl, ca2, cb2⟩ := a2.form
 obtain ⟨pa3, qa3, rfl, ca3, cb3⟩ := a3.form
 obtain ⟨pa4, qa4, rfl, _, _⟩ := Sl.form a4
 obtain ⟨pb1, qb1, rfl, cc1, cd1⟩ := v2.form
 obtain ⟨pb2, qb2, rfl, cc2, cd2⟩ := b2.form
 obtain ⟨pb3, qb3, rfl, cc3, cd3⟩ := b3.form
 obtain ⟨pb4, qb4, rfl, _, _⟩ := Sl.form b4
 have la2 : (numC a.nums).length = a.nums.length := by simp [numC]
 have lb2 : (numC b.nums).length = b.nums.length := by simp [numC]
 obtain ⟨m4, hm4⟩ : ∃ m, (a.raw.map fun b : UInt8 => Value.int .u8 (b.toNat : Int)).length = m := ⟨_, rfl⟩
 obtain ⟨n4, hn4⟩ : ∃ m, (b.raw.map fun b : UInt8 => Value.int .u8 (b.toNat : Int)).length = m := ⟨_, rfl⟩
 have hm4' := hm4
 have hn4' := hn4
 have A1 := Lib.hid u2
 have A2 := Lib.hid a2
 have A3 := Lib.hid a3
 have A4 := Lib.hid a4
 have B1 := Lib.hid v2
 have B2 := Lib.hid b2
 have B3 := Lib.hid b3
 have B4 := Lib.hid b4
 rw [hm4] at A4 ⊢
 rw [hn4] at B4 ⊢
 obtain ⟨m1, hm1⟩ : ∃ m, us.length = m := ⟨_, rfl⟩
 obtain ⟨n1, hn1⟩ : ∃ m, vs.length = m := ⟨_, rfl⟩
 obtain ⟨m2, hm2⟩ : ∃ m, (numC a.nums).length = m := ⟨_, rfl⟩
 obtain ⟨n2, hn2⟩ : ∃ m, (numC b.nums).length = m := ⟨_, rfl⟩
 obtain ⟨m3, hm3⟩ : ∃ m, a.texts.length = m := ⟨_, rfl⟩
 obtain ⟨n3, hn3⟩ : ∃ m, b.texts.length = m := ⟨_, rfl⟩
 rw [hm1] at A1 ca1 ⊢
 rw [hn1] at B1 cc1 ⊢
 rw [hm2] at A2 ca2 ⊢
 rw [hn2] at B2 cc2 ⊢
 rw [hm3] at A3 ca3 ⊢
 rw [hn3] at B3 cc3 ⊢
 have HL1 : Hid (us.length = m1 /\ a.names.length = m1 /\ vs.length = n1 /\ b.names.length = n1) := ⟨hm1, by rw [<- u1]; exact hm1, hn1, by rw [<- v1]; exact hn1⟩
 have HL2 : Hid ((numC a.nums).length = m2 /\ a.nums.length = m2 /\ (numC b.nums).length = n2 /\ b.nums.length = n2) := ⟨hm2, by rw [<- la2]; exact hm2, hn2, by rw [<- lb2]; exact hn2⟩
 have HL3 : Hid (a.texts.length = m3 /\ b.texts.length = n3) := ⟨hm3, hn3⟩
 have HU := Lib.hid u3
 have HV := Lib.hid v3
 have NA := Lib.hid na
 have NB' := Lib.hid nb
 have z1 : (m1 : Int) <= 1000 := by have := na.names.1; omega
 have z2 : (n1 : Int) <= 1000 := by have := nb.names.1; omega
 have z3 : (m2 : Int) <= 1000 := by have := na.nums.1; omega
 have z4 : (n2 : Int) <= 1000 := by have := nb.nums.1; omega
 have z5 : (m3 : Int) <= 1000 := by have := na.texts; omega
 have z6 : (n3 : Int) <= 1000 := by have := nb.texts; omega
 unfold maxLen at cb1 cd1 cb2 cd2
 obtain ⟨ta, hta⟩ : ∃ t, a.type = t := ⟨_, rfl⟩
 obtain ⟨tb, htb⟩ : ∃ t, b.type = t := ⟨_, rfl⟩
 have hcd : Rc.cmpD a b = Rc.orI (Nm.sgn ta tb) (Rc.orI (Rc.row Nm.cmp a.names b.names) (Rc.orI (Rc.row (fun x y : Nat => Nm.sgn x y) a.nums b.nums) (Rc.orI (Rc.row Lib.compareBytes a.texts b.texts) (Lib.compareBytes a.raw b.raw)))) := by rw [<- hta, <- htb]; rfl
 rw [hta, htb]
 obtain ⟨W0, hW0⟩ : ∃ W, (w.alloc (.cells #[.int .i64 ta, .slice pa1 m1 qa1, .slice pa2 m2 qa2, .slice pa3 m3 qa3, .slice pa4 m4 qa4] 99)).alloc (.cells #[.int .i64 tb, .slice pb1 n1 qb1, .slice pb2 n2 qb2, .slice pb3 n3 qb3, .slice pb4 n4 qb4] 99) = W := ⟨_, rfl⟩
 have hb0 : Below w.heap.size w W0 := by rw [<- hW0]; exact ((Below.refl _ _).alloc (Nat.le_refl _) _).alloc (by simp) _
 have HBX : Hid (∀ W', Below W0.heap.size W0 W' -> Bx5 w.heap.size (.int .i64 ta) (.slice pa1 m1 qa1) (.slice pa2 m2 qa2) (.slice pa3 m3 qa3) (.slice pa4 m4 qa4) W' /\ Bx5 (w.heap.size + 1) (.int .i64 tb) (.slice pb1 n1 qb1) (.slice pb2 n2 qb2) (.slice pb3 n3 qb3) (.slice pb4 n4 qb4) W') := fun W' hW => by
  have h1 : W0.heap[w.heap.size]? = some (.cells #[.int .i64 ta, .slice pa1 m1 qa1, .slice pa2 m2 qa2, .slice pa3 m3 qa3, .slice pa4 m4 qa4] 99 (0, 0)) := by
   rw [<- hW0]; exact (two_boxes w _ _ _ _).1
  have h2 : W0.heap[w.heap.size + 1]? = some (.cells #[.int .i64 tb, .slice pb1 n1 qb1, .slice pb2 n2 qb2, .slice pb3 n3 qb3, .slice pb4 n4 qb4] 99 (0, 0)) := by
   rw [<- hW0]; exact (two_boxes w _ _ _ _).2
  exact ⟨(Bx5.of h1).below hW, (Bx5.of h2).below hW⟩
 have HB0 := Lib.hid hb0
 have HW0 := Lib.hid hW0
 have HM4 : Hid (a.raw.length = m4 /\ b.raw.length = n4) := ⟨by rw [<- hm4']; simp, by rw [<- hn4']; simp⟩
 clear hm1 hn1 hm2 hn2 hm3 hn3 hm4 hn4 hm4' hn4' u1 u2 u3 v1 v2 v3 a2 a3 a4 b2 b3 b4 na nb hta htb hb0 hW0 la2 lb2
 by_cases ht : ta = tb
 case neg =>
  have HF : Hid (Rc.cmpD a b = Nm.sgn ta tb) := by
   show _ = _
   rw [hcd]
   refine Rc.orI_left (fun h => ht ?_)
   exact Rc.sgn_zero h
  clear hcd
  have h1 : (ta != tb) = true := by simp [ht]
  refine (callsIn_wide (n := 0)).1 ?_
  refine callsIn_of_wp Tryz.func143 rfl trivial ?_ rfl
  simp only [Tryz.ntmps143, List.size_toArray, List.length_cons, List.length_nil, Nat.reduceAdd, Nat.reduceSub, Array.replicate_succ, Array.replicate_zero, List.push_toArray, List.append_toArray, List.nil_append, List.cons_append]
  gi_wp2_with (gi_at_call 170; refine (callsIn_wide.2 (apart_any _ _ _)).mono ?_; rintro e w1 ⟨rfl, rfl⟩)
  go_ret
  exact ⟨by rw [HF.out]; rfl, by rw [HW0.out]; exact HB0.out⟩
 case pos =>
  subst ht
  have HC : Hid (Rc.cmpD a b = Rc.orI (Rc.row Nm.cmp a.names b.names) (Rc.orI (Rc.row (fun x y : Nat => Nm.sgn x y) a.nums b.nums) (Rc.orI (Rc.row Lib.compareBytes a.texts b.texts) (Lib.compareBytes a.raw b.raw)))) := by
   show _ = _
   rw [hcd, show Nm.sgn ta ta = 0 by unfold Nm.sgn; simp, Rc.orI_right]
  clear hcd
  refine (callsIn_wide (n := 0)).1 ?_
  refine callsIn_of_wp Tryz.func143 rfl trivial ?_ rfl
  simp only [Tryz.ntmps143, List.size_toArray, List.length_cons, List.length_nil, Nat.reduceAdd, Nat.reduceSub, Array.replicate_succ, Array.replicate_zero, List.push_toArray, List.append_toArray, List.nil_append, List.cons_append]
  gi_wp2_with fail
  rw [HW0.out]
  clear HW0
  gi_loopw [5, 6] (fun v5 _ W => ∃ k : Nat, Hid (k <= m1 /\ k <= n1 /\ Rc.row Nm.cmp a.names b.names = Rc.row Nm.cmp (a.names.drop k) (b.names.drop k)) /\ v5 = .int .i64 k /\ Below W0.heap.size W0 W) (fun v5 _ _ => m1 - (intOf v5).toNat)
  case atStart => exact ⟨0, ⟨Nat.zero_le _, Nat.zero_le _, rfl⟩, rfl, Below.refl _ _⟩
  case round =>
   obtain ⟨k, HK, rfl, hb⟩ := hrel
   obtain ⟨⟨x0, x1, x2, x3, x4⟩, y0, y1, y2, y3, y4⟩ := HBX.out _ hb
   have HBL := Lib.hid hb
   by_cases hlt : k < m1 /\ k < n1
   ·obtain ⟨hl1, hl2⟩ := hlt
    have hz1 : (k : Int) < (m1 : Int) := by omega
    have hz2 : (k : Int) < (n1 : Int) := by omega
    have ka : k < a.names.length := by rw [HL1.out.2.1]; exact hl1
    have kb : k < b.names.length := by rw [HL1.out.2.2.2]; exact hl2
    have HST := Lib.hid (Rc.row_step (f := Nm.cmp) ka kb)
    obtain ⟨z, hz⟩ : ∃ z, Nm.cmp a.names[k] b.names[k] = z := ⟨_, rfl⟩
    have kua : k < us.length := by rw [HL1.out.1]; exact hl1
    have kvb : k < vs.length := by rw [HL1.out.2.2.1]; exact hl2
    obtain ⟨ga, rfl, e1⟩ := A1.out.cells _ (below5 HB0.out hb) k kua
    obtain ⟨gb, rfl, e2⟩ := B1.out.cells _ (below5 HB0.out hb) k kvb
    have hra := HU.out k kua ka
    have hrb := HV.out k kvb kb
    obtain ⟨ua, hua⟩ : ∃ u, us[k] = u := ⟨_, rfl⟩
    obtain ⟨ub, hub⟩ : ∃ u, vs[k] = u := ⟨_, rfl⟩
    rw [hua] at e1 hra
    rw [hub] at e2 hrb
    obtain ⟨oa, ca, rfl, _, _⟩ := hra.form
    obtain ⟨ob, cb, rfl, _, _⟩ := hrb.form
    have HCM := Lib.hid (fun W' (hW : Below w.heap.size w W') => refCompareN_any _ _ a.names[k] b.names[k] W' (hra.below hW) (hrb.below hW) (NA.out.names.2 _ (List.getElem_mem ka)) (NB'.out.names.2 _ (List.getElem_mem kb)))
    rw [hz] at HCM
    obtain ⟨sa, hsa⟩ : ∃ s, a.names[k].length = s := ⟨_, rfl⟩
    obtain ⟨sb, hsb⟩ : ∃ s, b.names[k].length = s := ⟨_, rfl⟩
    rw [hsa] at e1 HCM
    rw [hsb] at e2 HCM
    obtain ⟨ea, hea⟩ : ∃ q, ga.add k = q := ⟨_, rfl⟩
    obtain ⟨eb, heb⟩ : ∃ q, gb.add k = q := ⟨_, rfl⟩
    rw [hea] at e1
    rw [heb] at e2
    have HZ := Lib.hid hz
    clear hra hrb hua hub hsa hsb hz hb x0 x2 x3 x4 y0 y2 y3 y4
    gi_wp2_with fail
    refine drawnH (List.range 11) (fun w' => w'.cell? ⟨w.heap.size, 1, none⟩ = some (.slice (some ga) m1 qa1) /\ w'.cell? ⟨w.heap.size + 1, 1, none⟩ = some (.slice (some gb) n1 qb1) /\ w'.cell? ea = some (.slice oa sa ca) /\ w'.cell? eb = some (.slice ob sb cb)) 12 rfl (by kernel_rfl) ?_
    intro wa hwa
    have hS : wa.cell? ⟨w.heap.size, 1, none⟩ = some (.slice (some ga) m1 qa1) /\ wa.cell? ⟨w.heap.size + 1, 1, none⟩ = some (.slice (some gb) n1 qb1) /\ wa.cell? ea = some (.slice oa sa ca) /\ wa.cell? eb = some (.slice ob sb cb) := by subst hwa; exact ⟨x1, y1, e1, e2⟩
    have HBA : Hid (Below W0.heap.size W0 wa) := by subst hwa; exact HBL.out.drew
    clear hwa x1 y1 e1 e2
    refine tH 0 ?q1v0 hS (fun w1 ⟨x1, y1, e1, e2⟩ => ?q1y0) ?_
    case q1y0 => go_simp; try rfl
    refine tH 1 ?q1v1 hS (fun w1 ⟨x1, y1, e1, e2⟩ => ?q1y1) ?_
    case q1y1 => go_simp; try rfl
    refine tH 2 ?q1v2 hS (fun w1 ⟨x1, y1, e1, e2⟩ => ?q1y2) ?_
    case q1y2 => go_simp; try rfl
    refine tH 3 ?q1v3 hS (fun w1 ⟨x1, y1, e1, e2⟩ => ?q1y3) ?_
    case q1y3 => go_simp; try rfl
    refine tH 4 ?q1v4 hS (fun w1 ⟨x1, y1, e1, e2⟩ => ?q1y4) ?_
    case q1y4 => go_simp; try rfl
    refine tH 5 ?q1v5 hS (fun w1 ⟨x1, y1, e1, e2⟩ => ?q1y5) ?_
    case q1y5 => go_simp; try rfl
    refine tH 6 ?q1v6 hS (fun w1 ⟨x1, y1, e1, e2⟩ => ?q1y6) ?_
    case q1y6 => go_simp; try rfl
    refine tH 7 ?q1v7 hS (fun w1 ⟨x1, y1, e1, e2⟩ => ?q1y7) ?_
    case q1y7 => go_simp; try rfl
    simp only [Act.put, List.setIfInBounds_toArray, List.set_cons_succ, List.set_cons_zero]
    refine tH 8 ?q1v8 hS (fun w1 ⟨x1, y1, e1, e2⟩ => ?q1y8) ?_
    case q1y8 => go_simp; try rfl
    refine tH 9 ?q1v9 hS (fun w1 ⟨x1, y1, e1, e2⟩ => ?q1y9) ?_
    case q1y9 => go_simp; try rfl
    simp only [Act.put, List.setIfInBounds_toArray, List.set_cons_succ, List.set_cons_zero]
    refine oneH 10 (by rfl) (by kernel_rfl) (fun K hK => ?_)
    gi_wp2_with (gi_at_call 142; refine (callsIn_wide.2 (HCM.out wa (below5 HB0.out HBA.out))).mono ?_; rintro e w1 ⟨rfl, b1⟩)
    refine hK _ _ (fun _ => ⟨(b1.cell (cell_lt hS.1)).trans hS.1, (b1.cell (cell_lt hS.2.1)).trans hS.2.1, (b1.cell (cell_lt hS.2.2.1)).trans hS.2.2.1, (b1.cell (cell_lt hS.2.2.2)).trans hS.2.2.2⟩) ?_
    clear hK K hS
    have HBB := Lib.hid (below5 HBA.out b1)
    refine oneH 11 (by rfl) (by kernel_rfl) (fun K hK => ?_)
    gi_wp2_with fail
    refine hK _ _ (fun h => absurd h (by decide)) ?_
    clear hK K b1 hea heb
    refine doneH (by kernel_rfl) ?_
    by_cases h0 : z = 0
    ·subst h0
     gi_wp2_with fail
     refine ⟨⟨k + 1, ⟨hl1, hl2, ?_⟩, by go_num, HBB.out⟩, by simp [intOf]; omega⟩
     rw [HK.out.2.2, HST.out, if_neg (by rw [HZ.out]; simp)]
    ·have h1 : (z != 0) = true := by simp [h0]
     gi_wp2_with fail
     go_ret
     refine ⟨?_, below5 HB0.out HBB.out⟩
     rw [HC.out, HK.out.2.2, HST.out, if_pos (by rw [HZ.out]; exact h0), HZ.out, Rc.orI_left h0]; rfl
   ·have HEND : Hid (Rc.row Nm.cmp a.names b.names = Nm.sgn ((m1 : Int) - (n1 : Int)) 0) := by
     show _ = _
     have h1 := HK.out
     rw [h1.2.2, Rc.row_end (by rw [HL1.out.2.1]; exact h1.1) (by rw [HL1.out.2.2.2]; exact h1.2.1) (by rw [HL1.out.2.1, HL1.out.2.2.2]; omega), HL1.out.2.1, HL1.out.2.2.2]
    have hw : IntKind.i64.wrap ((m1 : Int) - (n1 : Int)) = (m1 : Int) - (n1 : Int) := IntWalk.i64_in _ (by omega)
    by_cases hmn : m1 = n1
    ·subst hmn
     have hk : k = m1 := by have h1 := HK.out; omega
     have hz1 : ¬ (k : Int) < (m1 : Int) := by omega
     have HZ0 : Hid (Rc.row Nm.cmp a.names b.names = 0) := by show _ = _; rw [HEND.out, Int.sub_self]; rfl
     replace HC := Lib.hid (HC.out.trans (by rw [HZ0.out, Rc.orI_right]))
     have HBL2 := Lib.hid HBL.out
     clear hb hlt hw hk
     gi_wp2_with fail
     clear x0 x1 x2 x3 x4 y0 y1 y2 y3 y4
     gi_loopw [7] (fun v7 W => ∃ k : Nat, Hid (k <= m2 /\ k <= n2 /\ Rc.row (fun x y : Nat => Nm.sgn x y) a.nums b.nums = Rc.row (fun x y : Nat => Nm.sgn x y) (a.nums.drop k) (b.nums.drop k)) /\ v7 = .int .i64 k /\ Below W0.heap.size W0 W) (fun v7 _ => m2 - (intOf v7).toNat)
     case atStart => exact ⟨0, ⟨Nat.zero_le _, Nat.zero_le _, rfl⟩, rfl, HBL2.out⟩
     case round =>
      obtain ⟨k, HK, rfl, hb⟩ := hrel
      obtain ⟨⟨x0, x1, x2, x3, x4⟩, y0, y1, y2, y3, y4⟩ := HBX.out _ hb
      have HBL := Lib.hid hb
      by_cases hlt : k < m2 /\ k < n2
      ·obtain ⟨hl1, hl2⟩ := hlt
       have hz1 : (k : Int) < (m2 : Int) := by omega
       have hz2 : (k : Int) < (n2 : Int) := by omega
       have ka : k < a.nums.length := by rw [HL2.out.2.1]; exact hl1
       have kb : k < b.nums.length := by rw [HL2.out.2.2.2]; exact hl2
       have HST := Lib.hid (Rc.row_step (f := (fun x y : Nat => Nm.sgn x y)) ka kb)
       obtain ⟨z, hz⟩ : ∃ z, Nm.sgn (a.nums[k] : Int) (b.nums[k] : Int) = z := ⟨_, rfl⟩
       have kua : k < (numC a.nums).length := by rw [HL2.out.1]; exact hl1
       have kvb : k < (numC b.nums).length := by rw [HL2.out.2.2.1]; exact hl2
       obtain ⟨ga, rfl, e1⟩ := A2.out.cells _ (below5 HB0.out hb) k kua
       obtain ⟨gb, rfl, e2⟩ := B2.out.cells _ (below5 HB0.out hb) k kvb
       simp only [numC, List.getElem_map] at e1 e2
       have la : a.nums[k] < 4294967296 := NA.out.nums.2 _ (List.getElem_mem ka)
       have lb : b.nums[k] < 4294967296 := NB'.out.nums.2 _ (List.getElem_mem kb)
       obtain ⟨ua, hua⟩ : ∃ u, a.nums[k] = u := ⟨_, rfl⟩
       obtain ⟨ub, hub⟩ : ∃ u, b.nums[k] = u := ⟨_, rfl⟩
       rw [hua] at e1 la hz
       rw [hub] at e2 lb hz
       have hsb := Nm.sgn_sub (ua : Int) (ub : Int)
       rw [hz] at hsb
       have HSB := Lib.hid hsb
       obtain ⟨ea, hea⟩ : ∃ q, ga.add k = q := ⟨_, rfl⟩
       obtain ⟨eb, heb⟩ : ∃ q, gb.add k = q := ⟨_, rfl⟩
       rw [hea] at e1
       rw [heb] at e2
       have HZ := Lib.hid (And.intro hz (And.intro hua hub))
       have laz : (ua : Int) < 4294967296 := by omega
       have lbz : (ub : Int) < 4294967296 := by omega
       clear hua hub hz hsb hb x0 x1 x3 x4 y0 y1 y3 y4
       gi_wp2_with fail
       refine drawnH (List.range 11) (fun w' => w'.cell? ⟨w.heap.size, 2, none⟩ = some (.slice (some ga) m2 qa2) /\ w'.cell? ⟨w.heap.size + 1, 2, none⟩ = some (.slice (some gb) n2 qb2) /\ w'.cell? ea = some (.int .u32 (ua : Int)) /\ w'.cell? eb = some (.int .u32 (ub : Int))) 11 rfl (by kernel_rfl) ?_
       intro wa hwa
       have hS : wa.cell? ⟨w.heap.size, 2, none⟩ = some (.slice (some ga) m2 qa2) /\ wa.cell? ⟨w.heap.size + 1, 2, none⟩ = some (.slice (some gb) n2 qb2) /\ wa.cell? ea = some (.int .u32 (ua : Int)) /\ wa.cell? eb = some (.int .u32 (ub : Int)) := by subst hwa; exact ⟨x2, y2, e1, e2⟩
       have HBA : Hid (Below W0.heap.size W0 wa) := by subst hwa; exact HBL.out.drew
       clear hwa x2 y2 e1 e2
       by_cases h0 : ua = ub
       ·subst h0
        refine tH 0 ?q2v0 hS (fun w1 ⟨x2, y2, e1, e2⟩ => ?q2y0) ?_
        case q2y0 => go_simp; try rfl
        refine tH 1 ?q2v1 hS (fun w1 ⟨x2, y2, e1, e2⟩ => ?q2y1) ?_
        case q2y1 => go_simp; try rfl
        refine tH 2 ?q2v2 hS (fun w1 ⟨x2, y2, e1, e2⟩ => ?q2y2) ?_
        case q2y2 => go_simp; try rfl
        refine tH 3 ?q2v3 hS (fun w1 ⟨x2, y2, e1, e2⟩ => ?q2y3) ?_
        case q2y3 => go_simp; try rfl
        refine tH 4 ?q2v4 hS (fun w1 ⟨x2, y2, e1, e2⟩ => ?q2y4) ?_
        case q2y4 => go_simp; try rfl
        refine tH 5 ?q2v5 hS (fun w1 ⟨x2, y2, e1, e2⟩ => ?q2y5) ?_
        case q2y5 => go_simp; try rfl
        refine tH 6 ?q2v6 hS (fun w1 ⟨x2, y2, e1, e2⟩ => ?q2y6) ?_
        case q2y6 => go_simp; try rfl
        refine tH 7 ?q2v7 hS (fun w1 ⟨x2, y2, e1, e2⟩ => ?q2y7) ?_
        case q2y7 => go_simp; try rfl
        simp only [Act.put, List.setIfInBounds_toArray, List.set_cons_succ, List.set_cons_zero]
        refine tH 8 ?q2v8 hS (fun w1 ⟨x2, y2, e1, e2⟩ => ?q2y8) ?_
        case q2y8 => go_simp; try rfl
        refine tH 9 ?q2v9 hS (fun w1 ⟨x2, y2, e1, e2⟩ => ?q2y9) ?_
        case q2y9 => go_simp; try rfl
        refine tH 10 ?q2v10 hS (fun w1 ⟨x2, y2, e1, e2⟩ => ?q2y10) ?_
        case q2y10 => go_simp; try rfl
        simp only [Act.put, List.setIfInBounds_toArray, List.set_cons_succ, List.set_cons_zero]
        refine doneH (by kernel_rfl) ?_
        gi_wp2_with fail
        refine ⟨⟨k + 1, ⟨hl1, hl2, ?_⟩, by go_num, HBA.out⟩, by simp [intOf]; omega⟩
        rw [HK.out.2.2, HST.out, if_neg (by rw [HZ.out.2.1, HZ.out.2.2]; unfold Nm.sgn; simp)]
       ·have h1 : ((ua : Int) != (ub : Int)) = true := by simp; omega
        have h2 : z ≠ 0 := fun e => h0 (by have := Rc.sgn_zero (HZ.out.1.trans e); omega)
        refine tH 0 ?q3v0 hS (fun w1 ⟨x2, y2, e1, e2⟩ => ?q3y0) ?_
        case q3y0 => go_simp; try rfl
        refine tH 1 ?q3v1 hS (fun w1 ⟨x2, y2, e1, e2⟩ => ?q3y1) ?_
        case q3y1 => go_simp; try rfl
        refine tH 2 ?q3v2 hS (fun w1 ⟨x2, y2, e1, e2⟩ => ?q3y2) ?_
        case q3y2 => go_simp; try rfl
        refine tH 3 ?q3v3 hS (fun w1 ⟨x2, y2, e1, e2⟩ => ?q3y3) ?_
        case q3y3 => go_simp; try rfl
        refine tH 4 ?q3v4 hS (fun w1 ⟨x2, y2, e1, e2⟩ => ?q3y4) ?_
        case q3y4 => go_simp; try rfl
        refine tH 5 ?q3v5 hS (fun w1 ⟨x2, y2, e1, e2⟩ => ?q3y5) ?_
        case q3y5 => go_simp; try rfl
        refine tH 6 ?q3v6 hS (fun w1 ⟨x2, y2, e1, e2⟩ => ?q3y6) ?_
        case q3y6 => go_simp; try rfl
        refine tH 7 ?q3v7 hS (fun w1 ⟨x2, y2, e1, e2⟩ => ?q3y7) ?_
        case q3y7 => go_simp; try rfl
        simp only [Act.put, List.setIfInBounds_toArray, List.set_cons_succ, List.set_cons_zero]
        refine tH 8 ?q3v8 hS (fun w1 ⟨x2, y2, e1, e2⟩ => ?q3y8) ?_
        case q3y8 => go_simp; try rfl
        refine tH 9 ?q3v9 hS (fun w1 ⟨x2, y2, e1, e2⟩ => ?q3y9) ?_
        case q3y9 => go_simp; try rfl
        refine tH 10 ?q3v10 hS (fun w1 ⟨x2, y2, e1, e2⟩ => ?q3y10) ?_
        case q3y10 => go_simp; try rfl
        simp only [Act.put, List.setIfInBounds_toArray, List.set_cons_succ, List.set_cons_zero]
        refine doneH (by kernel_rfl) ?_
        gi_wp2_with fail
        refine drawnH (List.range 14) (fun w' => w'.cell? ⟨w.heap.size, 2, none⟩ = some (.slice (some ga) m2 qa2) /\ w'.cell? ⟨w.heap.size + 1, 2, none⟩ = some (.slice (some gb) n2 qb2) /\ w'.cell? ea = some (.int .u32 (ua : Int)) /\ w'.cell? eb = some (.int .u32 (ub : Int))) 15 rfl (by kernel_rfl) ?_
        intro wb hwb
        replace hS : wb.cell? ⟨w.heap.size, 2, none⟩ = some (.slice (some ga) m2 qa2) /\ wb.cell? ⟨w.heap.size + 1, 2, none⟩ = some (.slice (some gb) n2 qb2) /\ wb.cell? ea = some (.int .u32 (ua : Int)) /\ wb.cell? eb = some (.int .u32 (ub : Int)) := by subst hwb; exact hS
        have HBB : Hid (Below W0.heap.size W0 wb) := by subst hwb; exact HBA.out.drew
        clear hwb
        refine tH 0 ?q4v0 hS (fun w1 ⟨x2, y2, e1, e2⟩ => ?q4y0) ?_
        case q4y0 => go_simp; try rfl
        refine tH 1 ?q4v1 hS (fun w1 ⟨x2, y2, e1, e2⟩ => ?q4y1) ?_
        case q4y1 => go_simp; try rfl
        refine tH 2 ?q4v2 hS (fun w1 ⟨x2, y2, e1, e2⟩ => ?q4y2) ?_
        case q4y2 => go_simp; try rfl
        refine tH 3 ?q4v3 hS (fun w1 ⟨x2, y2, e1, e2⟩ => ?q4y3) ?_
        case q4y3 => go_simp; try rfl
        refine tH 4 ?q4v4 hS (fun w1 ⟨x2, y2, e1, e2⟩ => ?q4y4) ?_
        case q4y4 => go_simp; try rfl
        refine tH 5 ?q4v5 hS (fun w1 ⟨x2, y2, e1, e2⟩ => ?q4y5) ?_
        case q4y5 => go_simp; try rfl
        refine tH 6 ?q4v6 hS (fun w1 ⟨x2, y2, e1, e2⟩ => ?q4y6) ?_
        case q4y6 => go_simp; try rfl
        refine tH 7 ?q4v7 hS (fun w1 ⟨x2, y2, e1, e2⟩ => ?q4y7) ?_
        case q4y7 => go_simp; try rfl
        simp only [Act.put, List.setIfInBounds_toArray, List.set_cons_succ, List.set_cons_zero]
        refine tH 8 ?q4v8 hS (fun w1 ⟨x2, y2, e1, e2⟩ => ?q4y8) ?_
        case q4y8 => go_simp; try rfl
        refine tH 9 ?q4v9 hS (fun w1 ⟨x2, y2, e1, e2⟩ => ?q4y9) ?_
        case q4y9 => go_simp; try rfl
        refine tH 10 ?q4v10 hS (fun w1 ⟨x2, y2, e1, e2⟩ => ?q4y10) ?_
        case q4y10 => go_simp; try rfl
        refine tH 11 ?q4v11 hS (fun w1 ⟨x2, y2, e1, e2⟩ => ?q4y11) ?_
        case q4y11 => go_simp; try rfl
        refine tH 12 ?q4v12 hS (fun w1 ⟨x2, y2, e1, e2⟩ => ?q4y12) ?_
        case q4y12 => go_simp; try rfl
        simp only [Act.put, List.setIfInBounds_toArray, List.set_cons_succ, List.set_cons_zero]
        refine oneH 13 (by rfl) (by kernel_rfl) (fun K hK => ?_)
        gi_wp2_with (gi_at_call 169; refine (callsIn_wide.2 (sign_any _ _)).mono ?_; rintro e w1 ⟨rfl, rfl⟩; rw [<- HSB.out])
        refine hK _ _ (fun _ => hS) ?_
        clear hK K hS
        refine oneH 14 (by rfl) (by kernel_rfl) (fun K hK => ?_)
        gi_wp2_with fail
        refine hK _ _ (fun h => absurd h (by decide)) ?_
        clear hK K hea heb
        refine doneH (by kernel_rfl) ?_
        gi_wp2_with fail
        go_ret
        refine ⟨?_, below5 HB0.out HBB.out⟩
        rw [HC.out, HK.out.2.2, HST.out, HZ.out.2.1, HZ.out.2.2, if_pos (by rw [HZ.out.1]; exact h2), HZ.out.1, Rc.orI_left h2]; rfl
      ·have HEND : Hid (Rc.row (fun x y : Nat => Nm.sgn x y) a.nums b.nums = Nm.sgn ((m2 : Int) - (n2 : Int)) 0) := by
        show _ = _
        have h1 := HK.out
        rw [h1.2.2, Rc.row_end (by rw [HL2.out.2.1]; exact h1.1) (by rw [HL2.out.2.2.2]; exact h1.2.1) (by rw [HL2.out.2.1, HL2.out.2.2.2]; omega), HL2.out.2.1, HL2.out.2.2.2]
       have hw : IntKind.i64.wrap ((m2 : Int) - (n2 : Int)) = (m2 : Int) - (n2 : Int) := IntWalk.i64_in _ (by omega)
       by_cases hmn : m2 = n2
       ·subst hmn
        have hk : k = m2 := by have h1 := HK.out; omega
        have hz1 : ¬ (k : Int) < (m2 : Int) := by omega
        have HZ0 : Hid (Rc.row (fun x y : Nat => Nm.sgn x y) a.nums b.nums = 0) := by show _ = _; rw [HEND.out, Int.sub_self]; rfl
        replace HC := Lib.hid (HC.out.trans (by rw [HZ0.out, Rc.orI_right]))
        have HBL3 := Lib.hid HBL.out
        clear hb hlt hw hk
        gi_wp2_with fail
        clear x0 x1 x2 x3 x4 y0 y1 y2 y3 y4
        gi_loopw [8, 9] (fun v8 _ W => ∃ k : Nat, Hid (k <= m3 /\ k <= n3 /\ Rc.row Lib.compareBytes a.texts b.texts = Rc.row Lib.compareBytes (a.texts.drop k) (b.texts.drop k)) /\ v8 = .int .i64 k /\ Below W0.heap.size W0 W) (fun v8 _ _ => m3 - (intOf v8).toNat)
        case atStart => exact ⟨0, ⟨Nat.zero_le _, Nat.zero_le _, rfl⟩, rfl, HBL3.out⟩
        case round =>
         obtain ⟨k, HK, rfl, hb⟩ := hrel
         obtain ⟨⟨x0, x1, x2, x3, x4⟩, y0, y1, y2, y3, y4⟩ := HBX.out _ hb
         have HBL := Lib.hid hb
         by_cases hlt : k < m3 /\ k < n3
         ·obtain ⟨hl1, hl2⟩ := hlt
          have hz1 : (k : Int) < (m3 : Int) := by omega
          have hz2 : (k : Int) < (n3 : Int) := by omega
          have ka : k < a.texts.length := by rw [HL3.out.1]; exact hl1
          have kb : k < b.texts.length := by rw [HL3.out.2]; exact hl2
          have HST := Lib.hid (Rc.row_step (f := Lib.compareBytes) ka kb)
          obtain ⟨z, hz⟩ : ∃ z, Lib.compareBytes a.texts[k] b.texts[k] = z := ⟨_, rfl⟩
          obtain ⟨ga, rfl, e1⟩ := A3.out.sl.cells _ (below5 HB0.out hb) k (by simpa using ka)
          obtain ⟨gb, rfl, e2⟩ := B3.out.sl.cells _ (below5 HB0.out hb) k (by simpa using kb)
          simp only [List.getElem_map] at e1 e2
          obtain ⟨ua, hua⟩ : ∃ u, a.texts[k] = u := ⟨_, rfl⟩
          obtain ⟨ub, hub⟩ : ∃ u, b.texts[k] = u := ⟨_, rfl⟩
          rw [hua] at e1 hz
          rw [hub] at e2 hz
          obtain ⟨ea, hea⟩ : ∃ q, ga.add k = q := ⟨_, rfl⟩
          obtain ⟨eb, heb⟩ : ∃ q, gb.add k = q := ⟨_, rfl⟩
          rw [hea] at e1
          rw [heb] at e2
          have HZ := Lib.hid (And.intro hz (And.intro hua hub))
          clear hua hub hz hb x0 x1 x2 x4 y0 y1 y2 y4
          gi_wp2_with fail
          refine drawnH (List.range 11) (fun w' => w'.cell? ⟨w.heap.size, 3, none⟩ = some (.slice (some ga) m3 qa3) /\ w'.cell? ⟨w.heap.size + 1, 3, none⟩ = some (.slice (some gb) n3 qb3) /\ w'.cell? ea = some (S ua) /\ w'.cell? eb = some (S ub)) 12 rfl (by kernel_rfl) ?_
          intro wa hwa
          have hS : wa.cell? ⟨w.heap.size, 3, none⟩ = some (.slice (some ga) m3 qa3) /\ wa.cell? ⟨w.heap.size + 1, 3, none⟩ = some (.slice (some gb) n3 qb3) /\ wa.cell? ea = some (S ua) /\ wa.cell? eb = some (S ub) := by subst hwa; exact ⟨x3, y3, e1, e2⟩
          have HBA : Hid (Below W0.heap.size W0 wa) := by subst hwa; exact HBL.out.drew
          clear hwa x3 y3 e1 e2
          refine tH 0 ?q5v0 hS (fun w1 ⟨x3, y3, e1, e2⟩ => ?q5y0) ?_
          case q5y0 => go_simp; try rfl
          refine tH 1 ?q5v1 hS (fun w1 ⟨x3, y3, e1, e2⟩ => ?q5y1) ?_
          case q5y1 => go_simp; try rfl
          refine tH 2 ?q5v2 hS (fun w1 ⟨x3, y3, e1, e2⟩ => ?q5y2) ?_
          case q5y2 => go_simp; try rfl
          refine tH 3 ?q5v3 hS (fun w1 ⟨x3, y3, e1, e2⟩ => ?q5y3) ?_
          case q5y3 => go_simp; try rfl
          refine tH 4 ?q5v4 hS (fun w1 ⟨x3, y3, e1, e2⟩ => ?q5y4) ?_
          case q5y4 => go_simp; try rfl
          refine tH 5 ?q5v5 hS (fun w1 ⟨x3, y3, e1, e2⟩ => ?q5y5) ?_
          case q5y5 => go_simp; try rfl
          refine tH 6 ?q5v6 hS (fun w1 ⟨x3, y3, e1, e2⟩ => ?q5y6) ?_
          case q5y6 => go_simp; try rfl
          refine tH 7 ?q5v7 hS (fun w1 ⟨x3, y3, e1, e2⟩ => ?q5y7) ?_
          case q5y7 => go_simp; try rfl
          simp only [Act.put, List.setIfInBounds_toArray, List.set_cons_succ, List.set_cons_zero]
          refine tH 8 ?q5v8 hS (fun w1 ⟨x3, y3, e1, e2⟩ => ?q5y8) ?_
          case q5y8 => go_simp; try rfl
          refine tH 9 ?q5v9 hS (fun w1 ⟨x3, y3, e1, e2⟩ => ?q5y9) ?_
          case q5y9 => go_simp; try rfl
          simp only [Act.put, List.setIfInBounds_toArray, List.set_cons_succ, List.set_cons_zero]
          refine oneH 10 (by rfl) (by kernel_rfl) (fun K hK => ?_)
          gi_wp2_with (gi_at_call 171; refine (callsIn_wide.2 (refOrder_any ua ub _)).mono ?_; rintro e w1 ⟨rfl, rfl⟩; rw [HZ.out.1])
          refine hK _ _ (fun _ => hS) ?_
          clear hK K hS
          refine oneH 11 (by rfl) (by kernel_rfl) (fun K hK => ?_)
          gi_wp2_with fail
          refine hK _ _ (fun h => absurd h (by decide)) ?_
          clear hK K hea heb
          refine doneH (by kernel_rfl) ?_
          by_cases h0 : z = 0
          ·subst h0
           gi_wp2_with fail
           refine ⟨⟨k + 1, ⟨hl1, hl2, ?_⟩, by go_num, HBA.out⟩, by simp [intOf]; omega⟩
           rw [HK.out.2.2, HST.out, HZ.out.2.1, HZ.out.2.2, if_neg (by rw [HZ.out.1]; simp)]
          ·have h1 : (z != 0) = true := by simp [h0]
           gi_wp2_with fail
           go_ret
           refine ⟨?_, below5 HB0.out HBA.out⟩
           rw [HC.out, HK.out.2.2, HST.out, HZ.out.2.1, HZ.out.2.2, if_pos (by rw [HZ.out.1]; exact h0), HZ.out.1, Rc.orI_left h0]; rfl
         ·have HEND : Hid (Rc.row Lib.compareBytes a.texts b.texts = Nm.sgn ((m3 : Int) - (n3 : Int)) 0) := by
           show _ = _
           have h1 := HK.out
           rw [h1.2.2, Rc.row_end (by rw [HL3.out.1]; exact h1.1) (by rw [HL3.out.2]; exact h1.2.1) (by rw [HL3.out.1, HL3.out.2]; omega), HL3.out.1, HL3.out.2]
          have hw : IntKind.i64.wrap ((m3 : Int) - (n3 : Int)) = (m3 : Int) - (n3 : Int) := IntWalk.i64_in _ (by omega)
          by_cases hmn : m3 = n3
          ·subst hmn
           have hk : k = m3 := by have h1 := HK.out; omega
           have hz1 : ¬ (k : Int) < (m3 : Int) := by omega
           have HZ0 : Hid (Rc.row Lib.compareBytes a.texts b.texts = 0) := by show _ = _; rw [HEND.out, Int.sub_self]; rfl
           replace HC := Lib.hid (HC.out.trans (by rw [HZ0.out, Rc.orI_right]))
           have HBL4 := Lib.hid HBL.out
           clear hb hlt hw hk
           have HCA := Lib.hid (conv_bt (A4.out.below (below5 HB0.out HBL.out)))
           have HCB := Lib.hid (conv_bt (B4.out.below (below5 HB0.out HBL.out)))
           have hca := HCA.out
           have hcb := HCB.out
           gi_wp2_with (gi_at_call 171; refine (callsIn_wide.2 (refOrder_any a.raw b.raw _)).mono ?_; rintro e w1 ⟨rfl, rfl⟩; rw [<- HC.out])
           go_ret
           exact ⟨rfl, below5 HB0.out HBL.out⟩
          ·have HNE := Lib.hid (sgn_ne hmn)
           have h1 : ((m3 : Int) != (n3 : Int)) = true := by simp; omega
           have h2 : Nm.sgn ((m3 : Int) - (n3 : Int)) 0 ≠ 0 := sgn_ne hmn
           have HFIN : Hid (Rc.cmpD a b = Nm.sgn ((m3 : Int) - (n3 : Int)) 0) := by show _ = _; rw [HC.out, HEND.out, Rc.orI_left h2]
           clear hb h2
           by_cases hl : k < m3
           ·have hz1 : (k : Int) < (m3 : Int) := by omega
            have hz2 : ¬ (k : Int) < (n3 : Int) := by omega
            gi_wp2_with (gi_at_call 169; refine (callsIn_wide.2 (sign_any _ _)).mono ?_; rintro e w1 ⟨rfl, rfl⟩; rw [<- HFIN.out])
            go_ret
            exact ⟨rfl, below5 HB0.out HBL.out⟩
           ·have hz1 : ¬ (k : Int) < (m3 : Int) := by omega
            gi_wp2_with (gi_at_call 169; refine (callsIn_wide.2 (sign_any _ _)).mono ?_; rintro e w1 ⟨rfl, rfl⟩; rw [<- HFIN.out])
            go_ret
            exact ⟨rfl, below5 HB0.out HBL.out⟩
       ·have HNE := Lib.hid (sgn_ne hmn)
        have h1 : ((m2 : Int) != (n2 : Int)) = true := by simp; omega
        have h2 : Nm.sgn ((m2 : Int) - (n2 : Int)) 0 ≠ 0 := sgn_ne hmn
        have HFIN : Hid (Rc.cmpD a b = Nm.sgn ((m2 : Int) - (n2 : Int)) 0) := by show _ = _; rw [HC.out, HEND.out, Rc.orI_left h2]
        clear hb h2
        by_cases hl : k < m2
        ·have hz1 : (k : Int) < (m2 : Int) := by omega
         have hz2 : ¬ (k : Int) < (n2 : Int) := by omega
         gi_wp2_with (gi_at_call 169; refine (callsIn_wide.2 (sign_any _ _)).mono ?_; rintro e w1 ⟨rfl, rfl⟩; rw [<- HFIN.out])
         go_ret
         exact ⟨rfl, below5 HB0.out HBL.out⟩
        ·have hz1 : ¬ (k : Int) < (m2 : Int) := by omega
         gi_wp2_with (gi_at_call 169; refine (callsIn_wide.2 (sign_any _ _)).mono ?_; rintro e w1 ⟨rfl, rfl⟩; rw [<- HFIN.out])
         go_ret
         exact ⟨rfl, below5 HB0.out HBL.out⟩
    ·have HNE := Lib.hid (sgn_ne hmn)
     have h1 : ((m1 : Int) != (n1 : Int)) = true := by simp; omega
     have h2 : Nm.sgn ((m1 : Int) - (n1 : Int)) 0 ≠ 0 := sgn_ne hmn
     have HFIN : Hid (Rc.cmpD a b = Nm.sgn ((m1 : Int) - (n1 : Int)) 0) := by show _ = _; rw [HC.out, HEND.out, Rc.orI_left h2]
     clear hb h2
     by_cases hl : k < m1
     ·have hz1 : (k : Int) < (m1 : Int) := by omega
      have hz2 : ¬ (k : Int) < (n1 : Int) := by omega
      gi_wp2_with (gi_at_call 169; refine (callsIn_wide.2 (sign_any _ _)).mono ?_; rintro e w1 ⟨rfl, rfl⟩; rw [<- HFIN.out])
      go_ret
      exact ⟨rfl, below5 HB0.out HBL.out⟩
     ·have hz1 : ¬ (k : Int) < (m1 : Int) := by omega
      gi_wp2_with (gi_at_call 169; refine (callsIn_wide.2 (sign_any _ _)).mono ?_; rintro e w1 ⟨rfl, rfl⟩; rw [<- HFIN.out])
      go_ret
      exact ⟨rfl, below5 HB0.out HBL.out⟩
end Go.Proofs.YtneghhbclefmoaaGreat
end
section
namespace Go.Proofs.YtneghhbclefmoaaGreat
open Go.RowKit Go.Shelf Go.Sort Go.ChangeShapes Go.WideShapes
set_option maxRecDepth 100000
theorem DatRd.cells5 {vs : List Value} {r : Rc.PRec} {W : World} (h : DatRd vs r W) : ∃ us p1 q1 p2 n2 q2 p3 n3 q3 p4 n4 q4, vs = [.int .i64 r.type, .slice p1 us.length q1, .slice p2 n2 q2, .slice p3 n3 q3, .slice p4 n4 q4] /\ Sl (.slice p1 us.length q1) us W /\ us.length = r.names.length /\ (∀ u ∈ us, ∃ o l c, u = .slice o l c) := by
 obtain ⟨vn, vm, vt, vr, rfl, ⟨us, u1, u2, u3⟩, h2, h3, h4⟩ := h
 obtain ⟨p1, q1, e1, _⟩ := u2.form
 obtain ⟨p2, q2, e2, _⟩ := h2.form
 obtain ⟨p3, q3, e3, _⟩ := h3.form
 obtain ⟨p4, q4, e4, _⟩ := Sl.form h4
 subst e1; subst e2; subst e3; subst e4
 refine ⟨us, p1, q1, p2, _, q2, p3, _, q3, p4, _, q4, rfl, u2, u1, fun u hu => ?_⟩
 obtain ⟨i, hi, rfl⟩ := List.mem_iff_getElem.1 hu
 obtain ⟨o, c, e, _⟩ := (u3 i hi (by omega)).form
 exact ⟨_, _, _, e⟩
theorem DatRd.ok {vs : List Value} {r : Rc.PRec} {W : World} (h : DatRd vs r W) : vs.length = 5 /\ ∀ u ∈ vs, u.oneCell' = true := by
 obtain ⟨us, p1, q1, p2, n2, q2, p3, n3, q3, p4, n4, q4, rfl, _⟩ := h.cells5
 refine ⟨rfl, fun u hu => ?_⟩
 simp only [List.mem_cons, List.not_mem_nil, or_false] at hu
 rcases hu with rfl | rfl | rfl | rfl | rfl <;> rfl
def DtsRd (v : Value) (l : List RP) (W : World) : Prop := GRd 5 v (l.map (·.1)) W /\ ∀ x ∈ l, DatRd x.1 x.2 W
theorem DtsRd.below {v : Value} {l : List RP} {W W' : World} (h : DtsRd v l W) (hb : Below W.heap.size W W') : DtsRd v l W' := ⟨h.1.below hb, fun x hx => (h.2 x hx).below hb⟩
theorem DtsRd.form {v : Value} {l : List RP} {W : World} (h : DtsRd v l W) : ∃ o cap, v = .slice o l.length cap /\ l.length <= cap /\ cap <= 9223372036854775807 := by
 obtain ⟨o, cap, h1, h2, h3⟩ := h.1.form
 rw [List.length_map] at h1 h2
 exact ⟨o, cap, h1, h2, h3⟩
theorem DtsRd.el {o : Option Addr} {n cap : Nat} {l : List RP} {W : World} (h : DtsRd (.slice o n cap) l W) : ∀ W', Below W.heap.size W W' -> ∀ (i : Nat) (hi : i < l.length) (c0 c1 c2 c3 c4 : Value), l[i].1 = [c0, c1, c2, c3, c4] -> ∃ a, o = some a /\
  W'.cell? (a.add (i * 5)) = some c0 /\ W'.cell? ⟨(a.add (i * 5)).block, (a.add (i * 5)).off + 1, none⟩ = some c1 /\ W'.cell? ⟨(a.add (i * 5)).block, (a.add (i * 5)).off + 2, none⟩ = some c2 /\ W'.cell? ⟨(a.add (i * 5)).block, (a.add (i * 5)).off + 3, none⟩ = some c3 /\ W'.cell? ⟨(a.add (i * 5)).block, (a.add (i * 5)).off + 4, none⟩ = some c4 := by
 intro W' hb i hi c0 c1 c2 c3 c4 hx
 obtain ⟨a, ha, h0, h1⟩ := (h.1.below hb).at (by decide) i (by simpa using hi)
 simp only [List.getElem_map, hx] at h0 h1
 exact ⟨a, ha, h0, h1 1 (by decide) (by decide), h1 2 (by decide) (by decide), h1 3 (by decide) (by decide), h1 4 (by decide) (by decide)⟩
def plD (l : List RP) : List Rc.PRec := l.map (·.2)
end Go.Proofs.YtneghhbclefmoaaGreat
end
section
namespace Go.Proofs.YtneghhbclefmoaaGreat
open Go.RowKit Go.Shelf Go.Sort
set_option maxRecDepth 100000
def TrE (w : World) (e : Ending) (w' : World) : Prop := e = .returned (.bool true) /\ Below w.heap.size w w'
def OfD (w : World) (cs : List Value) (r : Rc.PRec) (W : World) : Prop :=
 ∃ us ox cx vm vt vr, cs = [.int .i64 r.type, .slice ox us.length cx, vm, vt, vr] /\ Row (fun g => w.heap.size <= g) 22 1 (.slice ox us.length cx) us.length us W /\ us.length = r.names.length /\
  (∀ i (h : i < us.length) (h' : i < r.names.length), Rd us[i] r.names[i] w) /\ Sl vm (numC r.nums) w /\ Rd vt r.texts w /\ BtRd vr r.raw w
theorem OfD.dat {w : World} {cs : List Value} {r : Rc.PRec} {W : World} (h : OfD w cs r W) (hb : Below w.heap.size w W) : DatRd cs r W := by
 obtain ⟨us, ox, cx, vm, vt, vr, rfl, h1, h2, h3, h4, h5, h6⟩ := h
 exact ⟨_, vm, vt, vr, rfl, ⟨us, h2, Row.sl h1, fun i hi hi' => (h3 i hi hi').below hb⟩, h4.below hb, h5.below hb, Sl.below h6 hb⟩
theorem OfD.below {w : World} {cs : List Value} {r : Rc.PRec} {W W' : World} (h : OfD w cs r W) (hb : Below W.heap.size W W') : OfD w cs r W' := by
 obtain ⟨us, ox, cx, vm, vt, vr, rfl, h1, h2⟩ := h
 exact ⟨us, ox, cx, vm, vt, vr, rfl, h1.below hb, h2⟩
theorem OfD.grown {w : World} {cs : List Value} {r : Rc.PRec} {W W' : World} {row : Option Nat} (h : OfD w cs r W) (hg : W.grownBy W' row) (hr : ∀ g, row = some g -> ∃ c t f, W.heap[g]? = some (.cells c t f) /\ t ≠ 22) : OfD w cs r W' := by
 obtain ⟨us, ox, cx, vm, vt, vr, rfl, h1, h2⟩ := h
 refine ⟨us, ox, cx, vm, vt, vr, rfl, h1.kept fun g c t f hv hk => (hg.block g (Array.getElem?_eq_some_iff.1 hk).1 (fun e => ?_)).trans hk, h2⟩
 obtain ⟨c1, f1, h3⟩ := h1.typ hv
 obtain ⟨c2, t2, f2, h4, h5⟩ := hr g e.symm
 rw [h3] at h4; cases h4; exact h5 rfl
theorem OfD.one {w : World} {cs : List Value} {r : Rc.PRec} {W : World} (h : OfD w cs r W) (hb : Below w.heap.size w W) : cs.length = 5 /\ ∀ u ∈ cs, u.oneCell' = true := (h.dat hb).ok
theorem info_rdat : (Tryz.prog.info? 99).map (fun i => (i.zero, i.size, i.bytes)) = some (some (.agg #[.int .i64 0, .slice none 0 0, .slice none 0 0, .slice none 0 0, .slice none 0 0]), 5, 104) := by kernel_rfl
theorem datsRd_of {w : World} {v : Value} {l : List (El w)} {W : World} (h : GRd 5 v (l.map encD) W) : DatsRd v l W := by
 obtain ⟨o, cap, h1, h2, h3, h4, h5, h6⟩ := h
 rw [List.length_map] at h1 h2
 refine ⟨o, cap, h1, h2, h3, h4, fun j hj => ?_⟩
 have hj' := hj
 rw [flat_len encD 5 encD_len] at hj'
 have q1 : j / 5 < l.length := by omega
 obtain ⟨a, ha, e⟩ := h6 (j / 5) (by simpa using q1) (j % 5) (Nat.mod_lt _ (by omega))
 rw [show j / 5 * 5 + j % 5 = j by omega, List.getElem_map, <- flat_get encD 5 encD_len l (j / 5) (j % 5) q1 (Nat.mod_lt _ (by omega)), show j / 5 * 5 + j % 5 = j by omega, List.getElem?_eq_getElem hj] at e
 exact ⟨a, ha, e⟩
end Go.Proofs.YtneghhbclefmoaaGreat
end
section
namespace Go.Proofs.YtneghhbclefmoaaGreat
open Go.RowKit Go.Shelf Go.Sort
set_option maxRecDepth 100000
def OfR7 (w : World) (cs : List Value) (r : Rc.PRec) (W : World) : Prop := ∃ vo ds, cs = vo :: .int .u32 (r.ttl : Int) :: ds /\ Rd vo r.owner w /\ OfD w ds r W
theorem OfR7.rec {w : World} {cs : List Value} {r : Rc.PRec} {W : World} (h : OfR7 w cs r W) (hb : Below w.heap.size w W) : RecRd cs r W := by
 obtain ⟨vo, ds, h1, h2, h3⟩ := h
 exact ⟨vo, ds, h1, h2.below hb, h3.dat hb⟩
theorem OfR7.below {w : World} {cs : List Value} {r : Rc.PRec} {W W' : World} (h : OfR7 w cs r W) (hb : Below W.heap.size W W') : OfR7 w cs r W' := by
 obtain ⟨vo, ds, h1, h2, h3⟩ := h
 exact ⟨vo, ds, h1, h2, h3.below hb⟩
theorem OfR7.grown {w : World} {cs : List Value} {r : Rc.PRec} {W W' : World} {row : Option Nat} (h : OfR7 w cs r W) (hg : W.grownBy W' row) (hr : ∀ g, row = some g -> ∃ c t f, W.heap[g]? = some (.cells c t f) /\ t ≠ 22) : OfR7 w cs r W' := by
 obtain ⟨vo, ds, h1, h2, h3⟩ := h
 exact ⟨vo, ds, h1, h2, h3.grown hg hr⟩
set_option maxHeartbeats 2000000 in
theorem of5T_any (vs : List Value) (r : Rc.PRec) (w w0 : World) (h : RecRd vs r w) (hb0 : Below w.heap.size w w0) (hn : r.names.length <= 1000) :
  Calls Tryz.prog 50 #[.agg vs.toArray] w0 fun e w' => ∃ vs', e = .returned (.agg vs'.toArray) /\ OfR7 w vs' r w' /\ Below w0.heap.size w0 w' := by
 obtain ⟨p0, n0, q0, p1, n1, q1, p2, n2, q2, p3, n3, q3, p4, n4, q4, rfl, hro, hrd⟩ := h.cells
 obtain ⟨W2, hW2⟩ : ∃ W2, (w0.alloc (.cells #[.slice p0 n0 q0, .int .u32 (r.ttl : Int), .int .i64 r.type, .slice p1 n1 q1, .slice p2 n2 q2, .slice p3 n3 q3, .slice p4 n4 q4] 90)).alloc (.cells #[.slice none 0 0, .int .u32 0, .int .i64 0, .slice none 0 0, .slice none 0 0, .slice none 0 0, .slice none 0 0] 101) = W2 := ⟨_, rfl⟩
 have hb2 : Below w0.heap.size w0 W2 := by subst hW2; exact ((Below.refl _ _).alloc (Nat.le_refl _) _).alloc (by simp) _
 have k0 : Blk w0.heap.size #[.slice p0 n0 q0, .int .u32 (r.ttl : Int), .int .i64 r.type, .slice p1 n1 q1, .slice p2 n2 q2, .slice p3 n3 q3, .slice p4 n4 q4] 90 W2 := by subst hW2; exact (Blk.new w0 _ _).alloc _
 have k1 : Blk (w0.heap.size + 1) #[.slice none 0 0, .int .u32 0, .int .i64 0, .slice none 0 0, .slice none 0 0, .slice none 0 0, .slice none 0 0] 101 W2 := by
  subst hW2
  have := Blk.new (w0.alloc (.cells #[.slice p0 n0 q0, .int .u32 (r.ttl : Int), .int .i64 r.type, .slice p1 n1 q1, .slice p2 n2 q2, .slice p3 n3 q3, .slice p4 n4 q4] 90)) #[.slice none 0 0, .int .u32 0, .int .i64 0, .slice none 0 0, .slice none 0 0, .slice none 0 0, .slice none 0 0] 101
  rwa [World.size_alloc] at this
 have HB := Lib.hid hb2
 have K1 := Lib.hid k1
 have HRO := Lib.hid hro
 have HRD := Lib.hid hrd
 obtain ⟨vn', vm', vt', vr', he, ⟨us, hul, hs1, hs2⟩, h2', h3', h4'⟩ := hrd
 cases he
 have HC := Lib.hid (fun w' (hw : Below w0.heap.size w0 w') => of4_any (.slice p1 n1 q1) (.slice p2 n2 q2) (.slice p3 n3 q3) (.slice p4 n4 q4) us r.type w' (hs1.below (below5 hb0 hw)) (fun u hu => by
  obtain ⟨i, hi, rfl⟩ := List.mem_iff_getElem.1 hu
  obtain ⟨o, c, h, _⟩ := (hs2 i hi (by omega)).form
  exact ⟨_, _, _, h⟩) ⟨_, _, _, rfl⟩ ⟨_, _, _, rfl⟩ ⟨_, _, _, rfl⟩ (by omega))
 have HU := Lib.hid hs2
 have HDR := Lib.hid (And.intro h2' (And.intro h3' h4'))
 have hSr := Sv.of k0
 have K0 := Lib.hid k0
 obtain ⟨m1, hm1⟩ : ∃ m1, us.length = m1 := ⟨_, rfl⟩
 rw [hm1] at HC
 have HUL := Lib.hid (And.intro hul hm1)
 clear hro h k0 k1 hb2 hs1 hs2 h2' h3' h4' hul hm1 HRD
 have HB0W := Lib.hid hb0
 clear hb0
 refine (callsIn_wide (n := 0)).1 ?_
 refine callsIn_of_wp Tryz.func50 rfl trivial ?_ rfl
 simp only [Tryz.ntmps50, List.size_toArray, List.length_cons, List.length_nil, Nat.reduceAdd, Nat.reduceSub, Array.replicate_succ, Array.replicate_zero, List.push_toArray, List.append_toArray, List.nil_append, List.cons_append]
 gi_wp2_with fail
 refine drawnH [0, 1, 2, 3, 4, 5, 6, 7] (Sv w0.heap.size (.slice p0 n0 q0) (.int .u32 (r.ttl : Int)) (.int .i64 r.type) (.slice p1 n1 q1) (.slice p2 n2 q2) (.slice p3 n3 q3) (.slice p4 n4 q4)) 9 rfl (by kernel_rfl) ?_
 intro w3 hw3
 have hS : Sv w0.heap.size (.slice p0 n0 q0) (.int .u32 (r.ttl : Int)) (.int .i64 r.type) (.slice p1 n1 q1) (.slice p2 n2 q2) (.slice p3 n3 q3) (.slice p4 n4 q4) w3 := by subst hw3; exact hSr
 have hb3 : Below W2.heap.size W2 w3 := by subst hw3; exact (Below.refl _ _).drew
 clear hw3 hSr hW2
 refine tH 0 ?qv0 hS (fun w1 ⟨g0, g1, g2, g3, g4, g5, g6⟩ => ?qy0) ?_
 case qy0 => go_simp; try rfl
 refine tH 2 ?qv2 hS (fun w1 ⟨g0, g1, g2, g3, g4, g5, g6⟩ => ?qy2) ?_
 case qy2 => go_simp; try rfl
 refine tH 4 ?qv4 hS (fun w1 ⟨g0, g1, g2, g3, g4, g5, g6⟩ => ?qy4) ?_
 case qy4 => go_simp; try rfl
 refine tH 1 ?qv1 hS (fun w1 ⟨g0, g1, g2, g3, g4, g5, g6⟩ => ?qy1) ?_
 case qy1 => go_simp; try rfl
 refine tH 3 ?qv3 hS (fun w1 ⟨g0, g1, g2, g3, g4, g5, g6⟩ => ?qy3) ?_
 case qy3 => go_simp; try rfl
 refine tH 5 ?qv5 hS (fun w1 ⟨g0, g1, g2, g3, g4, g5, g6⟩ => ?qy5) ?_
 case qy5 => go_simp; try rfl
 simp only [Act.put, List.setIfInBounds_toArray, List.set_cons_succ, List.set_cons_zero]
 have hbs3 := hb3.size
 have HC3 := Lib.hid (HC.out _ (below5 HB.out hb3))
 refine oneH 6 (by rfl) (by kernel_rfl) (fun K hK => ?_)
 gi_wp2_with (gi_at_call 65; refine (callsIn_wide.2 HC3.out).mono ?_; rintro e w4 ⟨r1, t1, rfl, hrow4, b4⟩)
 have hb4 := below5 hb3 b4
 have hS4 : Sv w0.heap.size (.slice p0 n0 q0) (.int .u32 (r.ttl : Int)) (.int .i64 r.type) (.slice p1 n1 q1) (.slice p2 n2 q2) (.slice p3 n3 q3) (.slice p4 n4 q4) w4 := Sv.of (K0.out.below hb4)
 refine hK _ _ (fun _ => hS4) ?_
 clear hK K hS hb3 b4
 have hS := hS4
 clear hS4
 refine tH 7 ?qv7 hS (fun w1 ⟨g0, g1, g2, g3, g4, g5, g6⟩ => ?qy7) ?_
 case qy7 => go_simp; try rfl
 simp only [Act.put, List.setIfInBounds_toArray, List.set_cons_succ, List.set_cons_zero]
 have k1 := K1.out.below hb4
 have a0 : w4.cell? ⟨w0.heap.size + 1, 0, none⟩ = some _ := k1.cell 0
 have a1 : w4.cell? ⟨w0.heap.size + 1, 1, none⟩ = some _ := k1.cell 1
 have a2 : w4.cell? ⟨w0.heap.size + 1, 2, none⟩ = some _ := k1.cell 2
 have a3 : w4.cell? ⟨w0.heap.size + 1, 3, none⟩ = some _ := k1.cell 3
 have a4 : w4.cell? ⟨w0.heap.size + 1, 4, none⟩ = some _ := k1.cell 4
 have a5 : w4.cell? ⟨w0.heap.size + 1, 5, none⟩ = some _ := k1.cell 5
 have a6 : w4.cell? ⟨w0.heap.size + 1, 6, none⟩ = some _ := k1.cell 6
 have f0 := k1.frozen 0
 have f1 := k1.frozen 1
 have f2 := k1.frozen 2
 have f3 := k1.frozen 3
 have f4 := k1.frozen 4
 have f5 := k1.frozen 5
 have f6 := k1.frozen 6
 obtain ⟨We, hWe⟩ : ∃ We, ((((((w4.setCell ⟨w0.heap.size + 1, 0, none⟩ (.slice p0 n0 q0)).setCell ⟨w0.heap.size + 1, 1, none⟩ (.int .u32 (r.ttl : Int))).setCell ⟨w0.heap.size + 1, 2, none⟩ (.int .i64 r.type)).setCell ⟨w0.heap.size + 1, 3, none⟩ (.slice r1 m1 t1)).setCell ⟨w0.heap.size + 1, 4, none⟩ (.slice p2 n2 q2)).setCell ⟨w0.heap.size + 1, 5, none⟩ (.slice p3 n3 q3)).setCell ⟨w0.heap.size + 1, 6, none⟩ (.slice p4 n4 q4) = We := ⟨_, rfl⟩
 have ke : Blk (w0.heap.size + 1) #[.slice p0 n0 q0, .int .u32 (r.ttl : Int), .int .i64 r.type, .slice r1 m1 t1, .slice p2 n2 q2, .slice p3 n3 q3, .slice p4 n4 q4] 101 We := by
  subst hWe; exact ((((((k1.setAt 0 _).setAt 1 _).setAt 2 _).setAt 3 _).setAt 4 _).setAt 5 _).setAt 6 _
 have hbe : Below w0.heap.size w0 We := by
  subst hWe
  exact (((((((below5 HB.out hb4).setCell (p := ⟨w0.heap.size + 1, 0, none⟩) (by simp) _).setCell (p := ⟨w0.heap.size + 1, 1, none⟩) (by simp) _).setCell (p := ⟨w0.heap.size + 1, 2, none⟩) (by simp) _).setCell (p := ⟨w0.heap.size + 1, 3, none⟩) (by simp) _).setCell (p := ⟨w0.heap.size + 1, 4, none⟩) (by simp) _).setCell (p := ⟨w0.heap.size + 1, 5, none⟩) (by simp) _).setCell (p := ⟨w0.heap.size + 1, 6, none⟩) (by simp) _
 have hrowe : Row (fun g => w3.heap.size + 3 <= g) 22 1 (.slice r1 m1 t1) m1 us We := by
  have hlt : w0.heap.size + 1 < w3.heap.size := by
   have h1 := K1.out.lt; have h2 := hbs3; omega
  subst hWe
  exact ((((((hrow4.setOther (fun h => by omega) _).setOther (fun h => by omega) _).setOther (fun h => by omega) _).setOther (fun h => by omega) _).setOther (fun h => by omega) _).setOther (fun h => by omega) _).setOther (fun h => by omega) _
 have KE := Lib.hid ke
 have HBE := Lib.hid hbe
 have HRE := Lib.hid hrowe
 clear ke hbe hrowe hrow4 k1
 refine oneH 8 (by rfl) (by kernel_rfl) (fun K hK => ?_)
 gi_wp2_with fail
 refine hK _ _ (fun h => absurd h (by decide)) ?_
 clear hK K hS
 refine doneH (by kernel_rfl) ?_
 have e0 : We.cell? ⟨w0.heap.size + 1, 0, none⟩ = some _ := KE.out.cell 0
 have e1 : We.cell? ⟨w0.heap.size + 1, 1, none⟩ = some _ := KE.out.cell 1
 have e2 : We.cell? ⟨w0.heap.size + 1, 2, none⟩ = some _ := KE.out.cell 2
 have e3 : We.cell? ⟨w0.heap.size + 1, 3, none⟩ = some _ := KE.out.cell 3
 have e4 : We.cell? ⟨w0.heap.size + 1, 4, none⟩ = some _ := KE.out.cell 4
 have e5 : We.cell? ⟨w0.heap.size + 1, 5, none⟩ = some _ := KE.out.cell 5
 have e6 : We.cell? ⟨w0.heap.size + 1, 6, none⟩ = some _ := KE.out.cell 6
 gi_wp2_with fail
 refine bodyPost_ret (v := .agg #[.slice p0 n0 q0, .int .u32 (r.ttl : Int), .int .i64 r.type, .slice r1 m1 t1, .slice p2 n2 q2, .slice p3 n3 q3, .slice p4 n4 q4]) (by simp at e0 e1 e2 e3 e4 e5 e6; simp [results, Tryz.results50, go_sem, e0, e1, e2, e3, e4, e5, e6]) rfl ?_
 have hbE := HBE.out
 obtain ⟨hul, hm1⟩ := HUL.out
 obtain ⟨h2, h3, h4⟩ := HDR.out
 have hrow := HRE.out
 have hw3 := HB0W.out.size
 have hsz : w0.heap.size <= w3.heap.size := by have := HB.out.size; omega
 rw [<- hm1] at hrow ⊢
 exact ⟨[.slice p0 n0 q0, .int .u32 (r.ttl : Int), .int .i64 r.type, .slice r1 us.length t1, .slice p2 n2 q2, .slice p3 n3 q3, .slice p4 n4 q4], rfl, ⟨_, _, rfl, HRO.out, us, r1, t1, _, _, _, rfl, hrow.mono (fun g hg => by omega), hul, HU.out, h2, h3, h4⟩, hbE⟩
theorem info_rrec : (Tryz.prog.info? 101).map (fun i => (i.zero, i.size, i.bytes)) = some (some (.agg #[.slice none 0 0, .int .u32 0, .int .i64 0, .slice none 0 0, .slice none 0 0, .slice none 0 0, .slice none 0 0]), 7, 136) := by kernel_rfl
theorem recsRd_of {v : Value} {l : List RP} {W : World} (h : GRd 7 v (l.map (·.1)) W) (hr : ∀ x ∈ l, RecRd x.1 x.2 W) : RecsRd v l W := by
 obtain ⟨o, cap, h1, h2, h3, h4, h5, h6⟩ := h
 rw [List.length_map] at h1 h2
 refine ⟨hr, o, cap, h1, h2, h3, h4, fun j hj => ?_⟩
 have h7 : ∀ x ∈ l, x.1.length = 7 := fun x hx => (hr x hx).len
 have hj' := hj
 rw [encP_len h7] at hj'
 have q1 : j / 7 < l.length := by omega
 obtain ⟨a, ha, e⟩ := h6 (j / 7) (by simpa using q1) (j % 7) (Nat.mod_lt _ (by omega))
 have h8 := encP_get h7 (j / 7) (j % 7) q1 (Nat.mod_lt _ (by omega))
 rw [show j / 7 * 7 + j % 7 = j by omega] at e h8
 rw [List.getElem_map, <- h8, List.getElem?_eq_getElem hj] at e
 exact ⟨a, ha, e⟩
def OfAllR {w : World} (l : List (El w)) (w0 : World) (e : Ending) (w' : World) : Prop := ∃ (v' : Value) (l' : List (El w')), e = .returned v' /\ RecsRd v' (l'.map (·.1)) w' /\ plE l' = plE l /\ Below w0.heap.size w0 w'
set_option maxHeartbeats 4000000 in
theorem ofAll_any {w w0 : World} (v : Value) (l : List (El w)) (hb0 : Below w.heap.size w w0) (hv : RecsRd v (l.map (·.1)) w0) (na : l.length <= 1000) :
  Calls Tryz.prog 14 #[v] w0 (OfAllR l w0) := by
 obtain ⟨ov, cv, rfl⟩ : ∃ o cap, v = .slice o l.length cap := by obtain ⟨_, o, cap, h, _⟩ := hv; exact ⟨o, cap, by rw [h, List.length_map]⟩
 have HV := Lib.hid hv.el
 have HB0 := Lib.hid hb0
 have lz : (l.length : Int) <= 1000 := by omega
 clear hv hb0
 refine (callsIn_wide (n := 0)).1 ?_
 refine callsIn_of_wp Tryz.func14 rfl trivial ?_ rfl
 simp only [Tryz.ntmps14, List.size_toArray, List.length_cons, List.length_nil, Nat.reduceAdd, Nat.reduceSub, Array.replicate_succ, Array.replicate_zero, List.push_toArray, List.append_toArray, List.nil_append, List.cons_append]
 gi_wp2_with fail
 gi_loopw [3, 4] (fun vx vi W => ∃ (i : Nat) (ys : List RP), i <= l.length /\ vi = .int .i64 i /\ Hid (ys.length = i /\ plD ys = plE (l.take i) /\ ∀ y ∈ ys, OfR7 w y.1 y.2 W) /\ Below w0.heap.size w0 W /\ Row (fun g => w0.heap.size <= g) 101 7 vx ys.length (ys.map (·.1)).flatten W) (fun _ vi _ => l.length - (intOf vi).toNat)
 case atStart => exact ⟨0, [], Nat.zero_le _, rfl, ⟨rfl, rfl, by simp⟩, Below.refl _ _, Row.nil _ _ _ _⟩
 case round =>
  obtain ⟨i, ys, hi, rfl, HI, hb, hrow⟩ := hrel
  by_cases hlt : i < l.length
  ·have hlz : (i : Int) < (l.length : Int) := by omega
   obtain ⟨x, hx⟩ : ∃ x, l[i] = x := ⟨_, rfl⟩
   obtain ⟨p0, n0, q0, p1, n1, q1, p2, n2, q2, p3, n3, q3, p4, n4, q4, ex⟩ := x.cells
   obtain ⟨ga, rfl, e0, e1, e2, e3, e4, e5, e6⟩ := HV.out _ hb i hlt _ _ _ _ _ _ _ (by rw [hx]; exact ex)
   obtain ⟨ea, hea⟩ : ∃ q, ga.add (i * 7) = q := ⟨_, rfl⟩
   rw [hea] at e0 e1 e2 e3 e4 e5 e6
   have htk : l.take (i + 1) = l.take i ++ [x] := by rw [List.take_succ_eq_append_getElem hlt, hx]
   have hxr : RecRd [.slice p0 n0 q0, .int .u32 (x.1.2.ttl : Int), .int .i64 x.1.2.type, .slice p1 n1 q1, .slice p2 n2 q2, .slice p3 n3 q3, .slice p4 n4 q4] x.1.2 w := by have h := x.2.1; rw [show x.1.1 = _ from ex] at h; exact h
   have HOF := Lib.hid (of5T_any _ x.1.2 w wr hxr (below5 HB0.out hb) x.2.2.names.1)
   have HTK := Lib.hid htk
   have HB := Lib.hid hb
   have HR := Lib.hid hrow
   clear hx ex htk hxr hb hrow
   gi_wp2_with fail
   (with_reducible refine (callsIn_wide.2 HOF.out).mono ?_)
   rintro e w4 ⟨cs, rfl, hof, b4⟩
   have hbw := below5 HB0.out (below5 HB.out b4)
   obtain ⟨d0, k0, t0, d1, k1, t1, d2, k2, t2, d3, k3, t3, d4, k4, t4, e7, _⟩ := (hof.rec hbw).cells
   subst e7
   have HB4 := Lib.hid (below5 HB.out b4)
   have HR4 := Lib.hid (HR.out.below b4)
   have HI4 : Hid (∀ y ∈ ys, OfR7 w y.1 y.2 w4) := fun y hy => (HI.out.2.2 y hy).below b4
   have HOD := Lib.hid hof
   have HG4 := Lib.hid (GRd.new [.slice d0 k0 t0, .int .u32 (x.1.2.ttl : Int), .int .i64 x.1.2.type, .slice d1 k1 t1, .slice d2 k2 t2, .slice d3 k3 t3, .slice d4 k4 t4] rfl (by simp [Value.oneCell']) w4 101)
   have HR5 := Lib.hid (HR4.out.alloc (.cells #[.slice d0 k0 t0, .int .u32 (x.1.2.ttl : Int), .int .i64 x.1.2.type, .slice d1 k1 t1, .slice d2 k2 t2, .slice d3 k3 t3, .slice d4 k4 t4] 101))
   have HBA : Hid (Below w4.heap.size w4 (w4.alloc (.cells #[.slice d0 k0 t0, .int .u32 (x.1.2.ttl : Int), .int .i64 x.1.2.type, .slice d1 k1 t1, .slice d2 k2 t2, .slice d3 k3 t3, .slice d4 k4 t4] 101))) := (Below.refl _ _).alloc (Nat.le_refl _) _
   have HRZ : Hid (w0.heap.size <= w4.heap.size + 1) := by have := HB4.out.size; show _ <= _; omega
   have HYN : Hid (ys.length + 1 <= 100000) := by have := HI.out.1; show _ <= _; omega
   clear e0 e1 e2 e3 e4 e5 e6 hof b4 HOF hea hbw
   gi_wp2_with (gi_at_builtin; refine append_g (fun g => w0.heap.size <= g) 101 _ 7 136 info_rrec rfl (by decide) rfl _ _ _ Tryz.underlying31 rfl _ ys.length (ys.map (·.1)) (by rfl) HR5.out _ [[.slice d0 k0 t0, .int .u32 (x.1.2.ttl : Int), .int .i64 x.1.2.type, .slice d1 k1 t1, .slice d2 k2 t2, .slice d3 k3 t3, .slice d4 k4 t4]] (by rfl) HG4.out HYN.out (by omega) (by rw [World.size_alloc]; exact HRZ.out) ?_; intro v10 w10 hrow10 hgr10; have HR10 := Lib.hid hrow10; have HGR10 := Lib.hid hgr10; clear hrow10 hgr10)
   gi_wp2_with fail
   have hgt : ∀ g, Value.ownBlock u3 = some g -> ∃ c t f, (w4.alloc (.cells #[.slice d0 k0 t0, .int .u32 (x.1.2.ttl : Int), .int .i64 x.1.2.type, .slice d1 k1 t1, .slice d2 k2 t2, .slice d3 k3 t3, .slice d4 k4 t4] 101)).heap[g]? = some (.cells c t f) /\ t ≠ 22 := fun g hg => by
    obtain ⟨c, f, h⟩ := HR5.out.typ hg
    exact ⟨c, _, f, h, by decide⟩
   refine ⟨⟨i + 1, ys ++ [([.slice d0 k0 t0, .int .u32 (x.1.2.ttl : Int), .int .i64 x.1.2.type, .slice d1 k1 t1, .slice d2 k2 t2, .slice d3 k3 t3, .slice d4 k4 t4], x.1.2)], hlt, by go_num, ⟨by simp [HI.out.1], ?_, fun y hy => ?_⟩, ?_, ?_⟩, by simp [intOf]; omega⟩
   ·rw [HTK.out, plE_snoc, <- HI.out.2.1]
    simp [plD]
   ·rw [List.mem_append, List.mem_singleton] at hy
    rcases hy with hy | rfl
    ·exact ((HI4.out y hy).below HBA.out).grown HGR10.out hgt
    ·exact (HOD.out.below HBA.out).grown HGR10.out hgt
   ·exact (below5 HB4.out HBA.out).grown HGR10.out (below5 HB4.out HBA.out).size (fun g hg => HR5.out.2 g hg)
   ·have := HR10.out
    rw [List.length_append, List.map_append]
    exact this
  ·have hlz : ¬ ((i : Int) < (l.length : Int)) := by omega
   obtain rfl : i = l.length := by omega
   have HB := Lib.hid hb
   have HR := Lib.hid hrow
   clear hb hrow
   gi_wp2_with fail
   go_ret
   have hbw := below5 HB0.out HB.out
   obtain ⟨h1, h2, h3⟩ := HI.out
   rw [List.take_length] at h2
   have hr7 : ∀ x ∈ ys, RecRd x.1 x.2 wr := fun x hx => (h3 x hx).rec hbw
   have hrb : ∀ x ∈ ys, RB x.2 := fun x hx => by
    have : x.2 ∈ plE l := by rw [<- h2]; exact List.mem_map.2 ⟨x, hx, rfl⟩
    obtain ⟨z, _, e⟩ := List.mem_map.1 this
    rw [<- e]; exact z.2.2
   obtain ⟨L, hL⟩ := els (W := wr) (l := ys) (fun x hx => ⟨hr7 x hx, hrb x hx⟩)
   refine ⟨_, L, rfl, ?_, ?_, HB.out⟩
   ·rw [hL]
    refine recsRd_of (Row.grd (by rw [List.length_map]; exact HR.out) (fun c hc => ?_)) hr7
    obtain ⟨x, hx, rfl⟩ := List.mem_map.1 hc
    exact ⟨(hr7 x hx).len, (hr7 x hx).one⟩
   ·rw [<- h2]
    have : plE L = plD (L.map (·.1)) := by simp [plE, plD]
    rw [this, hL]
theorem Rc.cmp_two (a b : Rc.PRec) : Rc.cmp a b = Rc.orI (Nm.cmp a.owner b.owner) (Rc.cmpD a b) := by
 have h : Rc.cmpD a b = Rc.orI (Nm.sgn a.type b.type) (Rc.cmpD a b) := by
  unfold Rc.cmpD Rc.orI
  by_cases h : Nm.sgn a.type b.type = 0 <;> simp [h]
 unfold Rc.cmp
 rw [<- h]
set_option maxHeartbeats 2000000 in
theorem refCompareRec_any (va vb : List Value) (a b : Rc.PRec) (w : World) (ha : RecRd va a w) (hb : RecRd vb b w) (na : RB a) (nb : RB b) :
  Calls Tryz.prog 102 #[.agg va.toArray, .agg vb.toArray] w (Gives (.int .i64 (Rc.cmp a b)) w) := by
 obtain ⟨p0, n0, q0, p1, n1, q1, p2, n2, q2, p3, n3, q3, p4, n4, q4, rfl, ho, hd⟩ := ha.cells
 obtain ⟨r0, k0, t0, r1, k1, t1, r2, k2, t2, r3, k3, t3, r4, k4, t4, rfl, ho', hd'⟩ := hb.cells
 obtain ⟨z, hz⟩ : ∃ z, Nm.cmp a.owner b.owner = z := ⟨_, rfl⟩
 have hct := Rc.cmp_two a b
 rw [hz] at hct
 have HCT := Lib.hid hct
 have HZ := Lib.hid hz
 have HO := Lib.hid ho
 have HO' := Lib.hid ho'
 have HD := Lib.hid hd
 have HD' := Lib.hid hd'
 obtain ⟨W2, hW2⟩ : ∃ W, (w.alloc (.cells #[.slice p0 n0 q0, .int .u32 (a.ttl : Int), .int .i64 a.type, .slice p1 n1 q1, .slice p2 n2 q2, .slice p3 n3 q3, .slice p4 n4 q4] 101)).alloc (.cells #[.slice r0 k0 t0, .int .u32 (b.ttl : Int), .int .i64 b.type, .slice r1 k1 t1, .slice r2 k2 t2, .slice r3 k3 t3, .slice r4 k4 t4] 101) = W := ⟨_, rfl⟩
 have hb2 : Below w.heap.size w W2 := by rw [<- hW2]; exact ((Below.refl _ _).alloc (Nat.le_refl _) _).alloc (by simp) _
 have kk2 : Blk w.heap.size #[.slice p0 n0 q0, .int .u32 (a.ttl : Int), .int .i64 a.type, .slice p1 n1 q1, .slice p2 n2 q2, .slice p3 n3 q3, .slice p4 n4 q4] 101 W2 := by rw [<- hW2]; exact (Blk.new w _ _).alloc _
 have kk3 : Blk (w.heap.size + 1) #[.slice r0 k0 t0, .int .u32 (b.ttl : Int), .int .i64 b.type, .slice r1 k1 t1, .slice r2 k2 t2, .slice r3 k3 t3, .slice r4 k4 t4] 101 W2 := by
  rw [<- hW2]
  have := Blk.new (w.alloc (.cells #[.slice p0 n0 q0, .int .u32 (a.ttl : Int), .int .i64 a.type, .slice p1 n1 q1, .slice p2 n2 q2, .slice p3 n3 q3, .slice p4 n4 q4] 101)) #[.slice r0 k0 t0, .int .u32 (b.ttl : Int), .int .i64 b.type, .slice r1 k1 t1, .slice r2 k2 t2, .slice r3 k3 t3, .slice r4 k4 t4] 101
  rwa [World.size_alloc] at this
 have HB2 := Lib.hid hb2
 have K2 := Lib.hid kk2
 have K3 := Lib.hid kk3
 have HW2 := Lib.hid hW2
 have HC1 := Lib.hid (refCompareN_any _ _ a.owner b.owner W2 (ho.below hb2) (ho'.below hb2) na.owner nb.owner)
 rw [hz] at HC1
 have HC2 := Lib.hid (fun W' (hW : Below W2.heap.size W2 W') => refCompareData_any _ _ a b W' (hd.below (below5 hb2 hW)) (hd'.below (below5 hb2 hW)) na nb)
 clear ha hb ho ho' hd hd' hz hct hW2 hb2 kk2 kk3
 refine (callsIn_wide (n := 0)).1 ?_
 refine callsIn_of_wp Tryz.func102 rfl trivial ?_ rfl
 simp only [Tryz.ntmps102, List.size_toArray, List.length_cons, List.length_nil, Nat.reduceAdd, Nat.reduceSub, Array.replicate_succ, Array.replicate_zero, List.push_toArray, List.append_toArray, List.nil_append, List.cons_append]
 gi_wp2_with fail
 rw [HW2.out]
 (with_reducible refine (callsIn_wide.2 HC1.out).mono ?_)
 rintro e w3 ⟨rfl, b3⟩
 have HB3 := Lib.hid b3
 have e2 : w3.cell? ⟨w.heap.size, 2, none⟩ = some _ := (K2.out.below b3).cell 2
 have e3 : w3.cell? ⟨w.heap.size, 3, none⟩ = some _ := (K2.out.below b3).cell 3
 have e4 : w3.cell? ⟨w.heap.size, 4, none⟩ = some _ := (K2.out.below b3).cell 4
 have e5 : w3.cell? ⟨w.heap.size, 5, none⟩ = some _ := (K2.out.below b3).cell 5
 have e6 : w3.cell? ⟨w.heap.size, 6, none⟩ = some _ := (K2.out.below b3).cell 6
 have f2 : w3.cell? ⟨w.heap.size + 1, 2, none⟩ = some _ := (K3.out.below b3).cell 2
 have f3 : w3.cell? ⟨w.heap.size + 1, 3, none⟩ = some _ := (K3.out.below b3).cell 3
 have f4 : w3.cell? ⟨w.heap.size + 1, 4, none⟩ = some _ := (K3.out.below b3).cell 4
 have f5 : w3.cell? ⟨w.heap.size + 1, 5, none⟩ = some _ := (K3.out.below b3).cell 5
 have f6 : w3.cell? ⟨w.heap.size + 1, 6, none⟩ = some _ := (K3.out.below b3).cell 6
 clear b3
 by_cases h0 : z = 0
 ·subst h0
  gi_wp2_with fail
  (with_reducible refine (callsIn_wide.2 (HC2.out w3 HB3.out)).mono ?_)
  rintro e w4 ⟨rfl, b4⟩
  have HB4 := Lib.hid (below5 HB2.out (below5 HB3.out b4))
  clear b4
  gi_wp2_with fail
  go_ret
  exact ⟨by rw [HCT.out, Rc.orI_right]; rfl, HB4.out⟩
 ·have h1 : (z != 0) = true := by simp [h0]
  gi_wp2_with fail
  go_ret
  exact ⟨by rw [HCT.out, Rc.orI_left h0]; rfl, below5 HB2.out HB3.out⟩
set_option maxHeartbeats 1000000 in
theorem refSameRec_any (va vb : List Value) (a b : Rc.PRec) (w : World) (ha : RecRd va a w) (hb : RecRd vb b w) (na : RB a) (nb : RB b) :
  Calls Tryz.prog 103 #[.agg va.toArray, .agg vb.toArray] w (Gives (.bool (Rc.cmp a b == 0)) w) := by
 have HA := Lib.hid ha
 have HB := Lib.hid hb
 obtain ⟨p0, n0, q0, p1, n1, q1, p2, n2, q2, p3, n3, q3, p4, n4, q4, rfl, _⟩ := ha.cells
 obtain ⟨r0, k0, t0, r1, k1, t1, r2, k2, t2, r3, k3, t3, r4, k4, t4, rfl, _⟩ := hb.cells
 have NA := Lib.hid na
 have NB' := Lib.hid nb
 clear na nb ha hb
 have hz : ∀ z : Int, (decide (z = 0)) = (z == 0) := fun z => by by_cases h : z = 0 <;> simp [h]
 go_enter Tryz.func103, Tryz.ntmps103
 go_wp2_with fail
 refine (refCompareRec_any [.slice p0 n0 q0, .int .u32 (a.ttl : Int), .int .i64 a.type, .slice p1 n1 q1, .slice p2 n2 q2, .slice p3 n3 q3, .slice p4 n4 q4] [.slice r0 k0 t0, .int .u32 (b.ttl : Int), .int .i64 b.type, .slice r1 k1 t1, .slice r2 k2 t2, .slice r3 k3 t3, .slice r4 k4 t4] a b _ (HA.out.below (((Below.refl _ _).alloc (Nat.le_refl _) _).alloc (by simp) _)) (HB.out.below (((Below.refl _ _).alloc (Nat.le_refl _) _).alloc (by simp) _)) NA.out NB'.out).mono ?_
 rintro e w1 ⟨rfl, b1⟩
 have hb1 := (((Below.refl w.heap.size w).alloc (Nat.le_refl _) _).alloc (by simp) _).trans (b1.mono (by simp; omega))
 go_wp2_with fail
 go_ret
 exact ⟨by first | rfl | simp [hz], hb1⟩
end Go.Proofs.YtneghhbclefmoaaGreat
end
