/- Data: which of two stands first, by the document. -/
import Derived.Test.YtneghhbclefmoaaJRcL
import Derived.Test.YtneghhbclefmoaaJRcO
import Derived.Laws.BytesArg
import Derived.Test.YtneghhbclefmoaaLSfA
section
namespace Go.Proofs.Ytneghhbclefmoaa
open Go.RowKit Go.Shelf
set_option maxRecDepth 100000

theorem conv_bt {v : Value} {l : List UInt8} {W : World} (h : BtRd v l W) : (convert 73 9 v).run Try.prog W = .ok (S l) W := by
  obtain ⟨o, cap, rfl, h1, h2, h3, h4⟩ := h
  cases o with
  | none =>
    have h0 := h3 rfl
    have : l = [] := List.length_eq_zero_iff.1 (by simp at h1; omega)
    subst this
    exact run_convert_bytes_nil _ _ 5 Try.underlying73 Try.underlying5 _ _ _ Try.underlying9
  | some a =>
    rw [List.length_map]
    refine run_convert_bytes_back _ _ _ 5 _ _ l Try.underlying73 Try.underlying5 Try.underlying9 (fun j hj => ?_)
    obtain ⟨a', ha, hc⟩ := h4 j (by simpa using hj)
    cases ha
    rw [hc]; simp
theorem Rc.row_step {α : Type} {f : α → α → Int} {a b : List α} {k : Nat} (ha : k < a.length) (hb : k < b.length) : Rc.row f (a.drop k) (b.drop k) = if f a[k] b[k] ≠ 0 then f a[k] b[k] else Rc.row f (a.drop (k + 1)) (b.drop (k + 1)) := by
  rw [List.drop_eq_getElem_cons ha, List.drop_eq_getElem_cons hb]; rfl
theorem Rc.row_end {α : Type} {f : α → α → Int} {a b : List α} {k : Nat} (ha : k ≤ a.length) (hb : k ≤ b.length) (h : a.length ≤ k ∨ b.length ≤ k) : Rc.row f (a.drop k) (b.drop k) = Nm.sgn ((a.length : Int) - b.length) 0 := by
  have la : (a.drop k).length = a.length - k := by simp
  have lb : (b.drop k).length = b.length - k := by simp
  rcases ha' : a.drop k with _ | ⟨x, xs⟩ <;> rcases hb' : b.drop k with _ | ⟨y, ys⟩ <;> rw [ha'] at la <;> rw [hb'] at lb <;> simp only [List.length_cons, List.length_nil] at la lb <;> simp only [Rc.row]
  · unfold Nm.sgn; rw [if_neg (by omega), if_neg (by omega)]
  · unfold Nm.sgn; rw [if_pos (by omega)]
  · unfold Nm.sgn; rw [if_neg (by omega), if_pos (by omega)]
  · omega
set_option maxHeartbeats 1000000 in
theorem apart_any (x y : Int) (w : World) : Calls Try.prog 118 #[.int .i64 x, .int .i64 y] w fun e w' => e = .returned (.int .i64 (Nm.sgn x y)) ∧ w = w' := by
  rcases Int.lt_trichotomy x y with h | h | h
  · have H := Lib.hid (show Nm.sgn x y = -1 by unfold Nm.sgn; rw [if_pos h])
    go_enter Try.func118, Try.ntmps118
    go_wp2
    go_ret
    exact ⟨by rw [H.out]; rfl, rfl⟩
  · subst h
    have H := Lib.hid (show Nm.sgn x x = 0 by unfold Nm.sgn; simp)
    go_enter Try.func118, Try.ntmps118
    go_wp2
    go_ret
    exact ⟨by rw [H.out]; rfl, rfl⟩
  · have H := Lib.hid (show Nm.sgn x y = 1 by unfold Nm.sgn; rw [if_neg (by omega), if_pos h])
    have h2 : ¬ x < y := by omega
    go_enter Try.func118, Try.ntmps118
    go_wp2
    go_ret
    exact ⟨by rw [H.out]; rfl, rfl⟩
theorem Rc.orI_left {x y : Int} (h : x ≠ 0) : Rc.orI x y = x := if_pos h
theorem Rc.orI_right (y : Int) : Rc.orI 0 y = y := if_neg (by simp)
theorem sgn_ne {m n : Nat} (h : m ≠ n) : Nm.sgn ((m : Int) - n) 0 ≠ 0 := by unfold Nm.sgn; split <;> (try split) <;> omega
set_option maxHeartbeats 8000000 in
theorem refCompareData_any (va vb : List Value) (a b : Rc.PRec) (w : World) (ha : DatRd va a w) (hb : DatRd vb b w) (na : RB a) (nb : RB b) :
    Calls Try.prog 91 #[.agg va.toArray, .agg vb.toArray] w (Gives (.int .i64 (Rc.cmpD a b)) w) := by
  obtain ⟨vn, vm, vt, vr, rfl, ⟨us, u1, u2, u3⟩, a2, a3, a4⟩ := ha
  obtain ⟨yn, ym, yt, yr, rfl, ⟨vs, v1, v2, v3⟩, b2, b3, b4⟩ := hb
  obtain ⟨pa1, qa1, rfl, ca1, cb1⟩ := u2.form
  obtain ⟨pa2, qa2, rfl, ca2, cb2⟩ := a2.form
  obtain ⟨pa3, qa3, rfl, ca3, cb3⟩ := a3.form
  obtain ⟨pa4, qa4, rfl, _, _⟩ := Sl.form a4
  obtain ⟨pb1, qb1, rfl, cc1, cd1⟩ := v2.form
  obtain ⟨pb2, qb2, rfl, cc2, cd2⟩ := b2.form
  obtain ⟨pb3, qb3, rfl, cc3, cd3⟩ := b3.form
  obtain ⟨pb4, qb4, rfl, _, _⟩ := Sl.form b4
  have la2 : (numC a.nums).length = a.nums.length := by simp [numC]
  have lb2 : (numC b.nums).length = b.nums.length := by simp [numC]
  obtain ⟨m4, hm4⟩ : ∃ m, (a.raw.map fun b : UInt8 => Value.int .u8 (b.toNat : Int)).length = m := ⟨_, rfl⟩
  obtain ⟨n4, hn4⟩ : ∃ m, (b.raw.map fun b : UInt8 => Value.int .u8 (b.toNat : Int)).length = m := ⟨_, rfl⟩
  have hm4' := hm4
  have hn4' := hn4
  have A1 := Lib.hid u2
  have A2 := Lib.hid a2
  have A3 := Lib.hid a3
  have A4 := Lib.hid a4
  have B1 := Lib.hid v2
  have B2 := Lib.hid b2
  have B3 := Lib.hid b3
  have B4 := Lib.hid b4
  rw [hm4] at A4 ⊢
  rw [hn4] at B4 ⊢
  obtain ⟨m1, hm1⟩ : ∃ m, us.length = m := ⟨_, rfl⟩
  obtain ⟨n1, hn1⟩ : ∃ m, vs.length = m := ⟨_, rfl⟩
  obtain ⟨m2, hm2⟩ : ∃ m, (numC a.nums).length = m := ⟨_, rfl⟩
  obtain ⟨n2, hn2⟩ : ∃ m, (numC b.nums).length = m := ⟨_, rfl⟩
  obtain ⟨m3, hm3⟩ : ∃ m, a.texts.length = m := ⟨_, rfl⟩
  obtain ⟨n3, hn3⟩ : ∃ m, b.texts.length = m := ⟨_, rfl⟩
  rw [hm1] at A1 ca1 ⊢
  rw [hn1] at B1 cc1 ⊢
  rw [hm2] at A2 ca2 ⊢
  rw [hn2] at B2 cc2 ⊢
  rw [hm3] at A3 ca3 ⊢
  rw [hn3] at B3 cc3 ⊢
  have HL1 : Hid (us.length = m1 ∧ a.names.length = m1 ∧ vs.length = n1 ∧ b.names.length = n1) := ⟨hm1, by rw [← u1]; exact hm1, hn1, by rw [← v1]; exact hn1⟩
  have HL2 : Hid ((numC a.nums).length = m2 ∧ a.nums.length = m2 ∧ (numC b.nums).length = n2 ∧ b.nums.length = n2) := ⟨hm2, by rw [← la2]; exact hm2, hn2, by rw [← lb2]; exact hn2⟩
  have HL3 : Hid (a.texts.length = m3 ∧ b.texts.length = n3) := ⟨hm3, hn3⟩
  have HU := Lib.hid u3
  have HV := Lib.hid v3
  have NA := Lib.hid na
  have NB' := Lib.hid nb
  have z1 : (m1 : Int) ≤ 1000 := by have := na.names.1; omega
  have z2 : (n1 : Int) ≤ 1000 := by have := nb.names.1; omega
  have z3 : (m2 : Int) ≤ 1000 := by have := na.nums.1; omega
  have z4 : (n2 : Int) ≤ 1000 := by have := nb.nums.1; omega
  have z5 : (m3 : Int) ≤ 1000 := by have := na.texts; omega
  have z6 : (n3 : Int) ≤ 1000 := by have := nb.texts; omega
  unfold maxLen at cb1 cd1 cb2 cd2
  obtain ⟨ta, hta⟩ : ∃ t, a.type = t := ⟨_, rfl⟩
  obtain ⟨tb, htb⟩ : ∃ t, b.type = t := ⟨_, rfl⟩
  have hcd : Rc.cmpD a b = Rc.orI (Nm.sgn ta tb) (Rc.orI (Rc.row Nm.cmp a.names b.names) (Rc.orI (Rc.row (fun x y : Nat => Nm.sgn x y) a.nums b.nums) (Rc.orI (Rc.row Lib.compareBytes a.texts b.texts) (Lib.compareBytes a.raw b.raw)))) := by rw [← hta, ← htb]; rfl
  rw [hta, htb]
  obtain ⟨W0, hW0⟩ : ∃ W, (w.alloc (.cells #[.int .i64 ta, .slice pa1 m1 qa1, .slice pa2 m2 qa2, .slice pa3 m3 qa3, .slice pa4 m4 qa4] 77)).alloc (.cells #[.int .i64 tb, .slice pb1 n1 qb1, .slice pb2 n2 qb2, .slice pb3 n3 qb3, .slice pb4 n4 qb4] 77) = W := ⟨_, rfl⟩
  have hb0 : Below w.heap.size w W0 := by rw [← hW0]; exact ((Below.refl _ _).alloc (Nat.le_refl _) _).alloc (by simp) _
  have HBX : Hid (∀ W', Below W0.heap.size W0 W' → Bx5 w.heap.size (.int .i64 ta) (.slice pa1 m1 qa1) (.slice pa2 m2 qa2) (.slice pa3 m3 qa3) (.slice pa4 m4 qa4) W' ∧ Bx5 (w.heap.size + 1) (.int .i64 tb) (.slice pb1 n1 qb1) (.slice pb2 n2 qb2) (.slice pb3 n3 qb3) (.slice pb4 n4 qb4) W') := fun W' hW => by
    have h1 : W0.heap[w.heap.size]? = some (.cells #[.int .i64 ta, .slice pa1 m1 qa1, .slice pa2 m2 qa2, .slice pa3 m3 qa3, .slice pa4 m4 qa4] 77 (0, 0)) := by
      rw [← hW0]; exact (two_boxes w _ _ _ _).1
    have h2 : W0.heap[w.heap.size + 1]? = some (.cells #[.int .i64 tb, .slice pb1 n1 qb1, .slice pb2 n2 qb2, .slice pb3 n3 qb3, .slice pb4 n4 qb4] 77 (0, 0)) := by
      rw [← hW0]; exact (two_boxes w _ _ _ _).2
    exact ⟨(Bx5.of h1).below hW, (Bx5.of h2).below hW⟩
  have HB0 := Lib.hid hb0
  have HW0 := Lib.hid hW0
  have HM4 : Hid (a.raw.length = m4 ∧ b.raw.length = n4) := ⟨by rw [← hm4']; simp, by rw [← hn4']; simp⟩
  clear hm1 hn1 hm2 hn2 hm3 hn3 hm4 hn4 hm4' hn4' u1 u2 u3 v1 v2 v3 a2 a3 a4 b2 b3 b4 na nb hta htb hb0 hW0 la2 lb2
  by_cases ht : ta = tb
  case neg =>
    have HF : Hid (Rc.cmpD a b = Nm.sgn ta tb) := by
      show _ = _
      rw [hcd]
      refine Rc.orI_left (fun h => ht ?_)
      exact Rc.sgn_zero h
    clear hcd
    have h1 : (ta != tb) = true := by simp [ht]
    refine (callsIn_wide (n := 0)).1 ?_
    refine callsIn_of_wp Try.func91 rfl trivial ?_ rfl
    simp only [Try.ntmps91, List.size_toArray, List.length_cons, List.length_nil, Nat.reduceAdd, Nat.reduceSub, Array.replicate_succ, Array.replicate_zero, List.push_toArray, List.append_toArray, List.nil_append, List.cons_append]
    gi_wp2_with (gi_at_call 118; refine (callsIn_wide.2 (apart_any _ _ _)).mono ?_; rintro e w1 ⟨rfl, rfl⟩)
    go_ret
    exact ⟨by rw [HF.out]; rfl, by rw [HW0.out]; exact HB0.out⟩
  case pos =>
    subst ht
    have HC : Hid (Rc.cmpD a b = Rc.orI (Rc.row Nm.cmp a.names b.names) (Rc.orI (Rc.row (fun x y : Nat => Nm.sgn x y) a.nums b.nums) (Rc.orI (Rc.row Lib.compareBytes a.texts b.texts) (Lib.compareBytes a.raw b.raw)))) := by
      show _ = _
      rw [hcd, show Nm.sgn ta ta = 0 by unfold Nm.sgn; simp, Rc.orI_right]
    clear hcd
    refine (callsIn_wide (n := 0)).1 ?_
    refine callsIn_of_wp Try.func91 rfl trivial ?_ rfl
    simp only [Try.ntmps91, List.size_toArray, List.length_cons, List.length_nil, Nat.reduceAdd, Nat.reduceSub, Array.replicate_succ, Array.replicate_zero, List.push_toArray, List.append_toArray, List.nil_append, List.cons_append]
    gi_wp2_with fail
    rw [HW0.out]
    clear HW0
    gi_loopw [5, 6] (fun v5 _ W => ∃ k : Nat, Hid (k ≤ m1 ∧ k ≤ n1 ∧ Rc.row Nm.cmp a.names b.names = Rc.row Nm.cmp (a.names.drop k) (b.names.drop k)) ∧ v5 = .int .i64 k ∧ Below W0.heap.size W0 W) (fun v5 _ _ => m1 - (intOf v5).toNat)
    case atStart => exact ⟨0, ⟨Nat.zero_le _, Nat.zero_le _, rfl⟩, rfl, Below.refl _ _⟩
    case round =>
      obtain ⟨k, HK, rfl, hb⟩ := hrel
      obtain ⟨⟨x0, x1, x2, x3, x4⟩, y0, y1, y2, y3, y4⟩ := HBX.out _ hb
      have HBL := Lib.hid hb
      by_cases hlt : k < m1 ∧ k < n1
      · obtain ⟨hl1, hl2⟩ := hlt
        have hz1 : (k : Int) < (m1 : Int) := by omega
        have hz2 : (k : Int) < (n1 : Int) := by omega
        have ka : k < a.names.length := by rw [HL1.out.2.1]; exact hl1
        have kb : k < b.names.length := by rw [HL1.out.2.2.2]; exact hl2
        have HST := Lib.hid (Rc.row_step (f := Nm.cmp) ka kb)
        obtain ⟨z, hz⟩ : ∃ z, Nm.cmp a.names[k] b.names[k] = z := ⟨_, rfl⟩
        have kua : k < us.length := by rw [HL1.out.1]; exact hl1
        have kvb : k < vs.length := by rw [HL1.out.2.2.1]; exact hl2
        obtain ⟨ga, rfl, e1⟩ := A1.out.cells _ (below5 HB0.out hb) k kua
        obtain ⟨gb, rfl, e2⟩ := B1.out.cells _ (below5 HB0.out hb) k kvb
        have hra := HU.out k kua ka
        have hrb := HV.out k kvb kb
        obtain ⟨ua, hua⟩ : ∃ u, us[k] = u := ⟨_, rfl⟩
        obtain ⟨ub, hub⟩ : ∃ u, vs[k] = u := ⟨_, rfl⟩
        rw [hua] at e1 hra
        rw [hub] at e2 hrb
        obtain ⟨oa, ca, rfl, _, _⟩ := hra.form
        obtain ⟨ob, cb, rfl, _, _⟩ := hrb.form
        have HCM := Lib.hid (fun W' (hW : Below w.heap.size w W') => refCompareN_any _ _ a.names[k] b.names[k] W' (hra.below hW) (hrb.below hW) (NA.out.names.2 _ (List.getElem_mem ka)) (NB'.out.names.2 _ (List.getElem_mem kb)))
        rw [hz] at HCM
        obtain ⟨sa, hsa⟩ : ∃ s, a.names[k].length = s := ⟨_, rfl⟩
        obtain ⟨sb, hsb⟩ : ∃ s, b.names[k].length = s := ⟨_, rfl⟩
        rw [hsa] at e1 HCM
        rw [hsb] at e2 HCM
        obtain ⟨ea, hea⟩ : ∃ q, ga.add k = q := ⟨_, rfl⟩
        obtain ⟨eb, heb⟩ : ∃ q, gb.add k = q := ⟨_, rfl⟩
        rw [hea] at e1
        rw [heb] at e2
        have HZ := Lib.hid hz
        clear hra hrb hua hub hsa hsb hz hb x0 x2 x3 x4 y0 y2 y3 y4
        gi_wp2_with fail
        refine drawnH (List.range 11) (fun w' => w'.cell? ⟨w.heap.size, 1, none⟩ = some (.slice (some ga) m1 qa1) ∧ w'.cell? ⟨w.heap.size + 1, 1, none⟩ = some (.slice (some gb) n1 qb1) ∧ w'.cell? ea = some (.slice oa sa ca) ∧ w'.cell? eb = some (.slice ob sb cb)) 12 rfl (by kernel_rfl) ?_
        intro wa hwa
        have hS : wa.cell? ⟨w.heap.size, 1, none⟩ = some (.slice (some ga) m1 qa1) ∧ wa.cell? ⟨w.heap.size + 1, 1, none⟩ = some (.slice (some gb) n1 qb1) ∧ wa.cell? ea = some (.slice oa sa ca) ∧ wa.cell? eb = some (.slice ob sb cb) := by subst hwa; exact ⟨x1, y1, e1, e2⟩
        have HBA : Hid (Below W0.heap.size W0 wa) := by subst hwa; exact HBL.out.drew
        clear hwa x1 y1 e1 e2
        refine takeH 0 (v := ?q1v0) (fun _ => trivial) (by rfl) (by kernel_rfl) hS (.inl ⟨by kernel_rfl, fun w1 ⟨x1, y1, e1, e2⟩ => ?q1y0⟩) ?_
        case q1y0 => (go_simp; try first | rfl | (rw [if_pos (by omega)]) | (rw [if_neg (by omega)]) | (rw [if_neg (by simp; omega)]) | (split <;> first | (exfalso; omega) | rfl))
        refine takeH 1 (v := ?q1v1) (fun _ => trivial) (by rfl) (by kernel_rfl) hS (.inl ⟨by kernel_rfl, fun w1 ⟨x1, y1, e1, e2⟩ => ?q1y1⟩) ?_
        case q1y1 => (go_simp; try first | rfl | (rw [if_pos (by omega)]) | (rw [if_neg (by omega)]) | (rw [if_neg (by simp; omega)]) | (split <;> first | (exfalso; omega) | rfl))
        refine takeH 2 (v := ?q1v2) (fun _ => trivial) (by rfl) (by kernel_rfl) hS (.inl ⟨by kernel_rfl, fun w1 ⟨x1, y1, e1, e2⟩ => ?q1y2⟩) ?_
        case q1y2 => (go_simp; try first | rfl | (rw [if_pos (by omega)]) | (rw [if_neg (by omega)]) | (rw [if_neg (by simp; omega)]) | (split <;> first | (exfalso; omega) | rfl))
        refine takeH 3 (v := ?q1v3) (fun _ => trivial) (by rfl) (by kernel_rfl) hS (.inl ⟨by kernel_rfl, fun w1 ⟨x1, y1, e1, e2⟩ => ?q1y3⟩) ?_
        case q1y3 => (go_simp; try first | rfl | (rw [if_pos (by omega)]) | (rw [if_neg (by omega)]) | (rw [if_neg (by simp; omega)]) | (split <;> first | (exfalso; omega) | rfl))
        refine takeH 4 (v := ?q1v4) (fun _ => trivial) (by rfl) (by kernel_rfl) hS (.inl ⟨by kernel_rfl, fun w1 ⟨x1, y1, e1, e2⟩ => ?q1y4⟩) ?_
        case q1y4 => (go_simp; try first | rfl | (rw [if_pos (by omega)]) | (rw [if_neg (by omega)]) | (rw [if_neg (by simp; omega)]) | (split <;> first | (exfalso; omega) | rfl))
        refine takeH 5 (v := ?q1v5) (fun _ => trivial) (by rfl) (by kernel_rfl) hS (.inl ⟨by kernel_rfl, fun w1 ⟨x1, y1, e1, e2⟩ => ?q1y5⟩) ?_
        case q1y5 => (go_simp; try first | rfl | (rw [if_pos (by omega)]) | (rw [if_neg (by omega)]) | (rw [if_neg (by simp; omega)]) | (split <;> first | (exfalso; omega) | rfl))
        refine takeH 6 (v := ?q1v6) (fun _ => trivial) (by rfl) (by kernel_rfl) hS (.inl ⟨by kernel_rfl, fun w1 ⟨x1, y1, e1, e2⟩ => ?q1y6⟩) ?_
        case q1y6 => (go_simp; try first | rfl | (rw [if_pos (by omega)]) | (rw [if_neg (by omega)]) | (rw [if_neg (by simp; omega)]) | (split <;> first | (exfalso; omega) | rfl))
        refine takeH 7 (v := ?q1v7) (fun _ => trivial) (by rfl) (by kernel_rfl) hS (.inl ⟨by kernel_rfl, fun w1 ⟨x1, y1, e1, e2⟩ => ?q1y7⟩) ?_
        case q1y7 => (go_simp; try first | rfl | (rw [if_pos (by omega)]) | (rw [if_neg (by omega)]) | (rw [if_neg (by simp; omega)]) | (split <;> first | (exfalso; omega) | rfl))
        simp only [Act.put, List.setIfInBounds_toArray, List.set_cons_succ, List.set_cons_zero]
        refine takeH 8 (v := ?q1v8) (fun _ => trivial) (by rfl) (by kernel_rfl) hS (.inl ⟨by kernel_rfl, fun w1 ⟨x1, y1, e1, e2⟩ => ?q1y8⟩) ?_
        case q1y8 => (go_simp; try first | rfl | (rw [if_pos (by omega)]) | (rw [if_neg (by omega)]) | (rw [if_neg (by simp; omega)]) | (split <;> first | (exfalso; omega) | rfl))
        refine takeH 9 (v := ?q1v9) (fun _ => trivial) (by rfl) (by kernel_rfl) hS (.inl ⟨by kernel_rfl, fun w1 ⟨x1, y1, e1, e2⟩ => ?q1y9⟩) ?_
        case q1y9 => (go_simp; try first | rfl | (rw [if_pos (by omega)]) | (rw [if_neg (by omega)]) | (rw [if_neg (by simp; omega)]) | (split <;> first | (exfalso; omega) | rfl))
        simp only [Act.put, List.setIfInBounds_toArray, List.set_cons_succ, List.set_cons_zero]
        refine oneH 10 (by rfl) (by kernel_rfl) (fun K hK => ?_)
        gi_wp2_with (gi_at_call 100; refine (callsIn_wide.2 (HCM.out wa (below5 HB0.out HBA.out))).mono ?_; rintro e w1 ⟨rfl, b1⟩)
        refine hK _ _ (fun _ => ⟨(b1.cell (cell_lt hS.1)).trans hS.1, (b1.cell (cell_lt hS.2.1)).trans hS.2.1, (b1.cell (cell_lt hS.2.2.1)).trans hS.2.2.1, (b1.cell (cell_lt hS.2.2.2)).trans hS.2.2.2⟩) ?_
        clear hK K hS
        have HBB := Lib.hid (below5 HBA.out b1)
        refine oneH 11 (by rfl) (by kernel_rfl) (fun K hK => ?_)
        gi_wp2_with fail
        refine hK _ _ (fun h => absurd h (by decide)) ?_
        clear hK K b1 hea heb
        refine doneH (by kernel_rfl) ?_
        by_cases h0 : z = 0
        · subst h0
          gi_wp2_with fail
          refine ⟨⟨k + 1, ⟨hl1, hl2, ?_⟩, by go_num, HBB.out⟩, by simp [intOf]; omega⟩
          rw [HK.out.2.2, HST.out, if_neg (by rw [HZ.out]; simp)]
        · have h1 : (z != 0) = true := by simp [h0]
          gi_wp2_with fail
          go_ret
          refine ⟨?_, below5 HB0.out HBB.out⟩
          rw [HC.out, HK.out.2.2, HST.out, if_pos (by rw [HZ.out]; exact h0), HZ.out, Rc.orI_left h0]; rfl
      · have HEND : Hid (Rc.row Nm.cmp a.names b.names = Nm.sgn ((m1 : Int) - (n1 : Int)) 0) := by
          show _ = _
          have h1 := HK.out
          rw [h1.2.2, Rc.row_end (by rw [HL1.out.2.1]; exact h1.1) (by rw [HL1.out.2.2.2]; exact h1.2.1) (by rw [HL1.out.2.1, HL1.out.2.2.2]; omega), HL1.out.2.1, HL1.out.2.2.2]
        have hw : IntKind.i64.wrap ((m1 : Int) - (n1 : Int)) = (m1 : Int) - (n1 : Int) := IntWalk.i64_in _ (by omega)
        by_cases hmn : m1 = n1
        · subst hmn
          have hk : k = m1 := by have h1 := HK.out; omega
          have hz1 : ¬ (k : Int) < (m1 : Int) := by omega
          have HZ0 : Hid (Rc.row Nm.cmp a.names b.names = 0) := by show _ = _; rw [HEND.out, Int.sub_self]; rfl
          replace HC := Lib.hid (HC.out.trans (by rw [HZ0.out, Rc.orI_right]))
          have HBL2 := Lib.hid HBL.out
          clear hb hlt hw hk
          gi_wp2_with fail
          clear x0 x1 x2 x3 x4 y0 y1 y2 y3 y4
          gi_loopw [7] (fun v7 W => ∃ k : Nat, Hid (k ≤ m2 ∧ k ≤ n2 ∧ Rc.row (fun x y : Nat => Nm.sgn x y) a.nums b.nums = Rc.row (fun x y : Nat => Nm.sgn x y) (a.nums.drop k) (b.nums.drop k)) ∧ v7 = .int .i64 k ∧ Below W0.heap.size W0 W) (fun v7 _ => m2 - (intOf v7).toNat)
          case atStart => exact ⟨0, ⟨Nat.zero_le _, Nat.zero_le _, rfl⟩, rfl, HBL2.out⟩
          case round =>
            obtain ⟨k, HK, rfl, hb⟩ := hrel
            obtain ⟨⟨x0, x1, x2, x3, x4⟩, y0, y1, y2, y3, y4⟩ := HBX.out _ hb
            have HBL := Lib.hid hb
            by_cases hlt : k < m2 ∧ k < n2
            · obtain ⟨hl1, hl2⟩ := hlt
              have hz1 : (k : Int) < (m2 : Int) := by omega
              have hz2 : (k : Int) < (n2 : Int) := by omega
              have ka : k < a.nums.length := by rw [HL2.out.2.1]; exact hl1
              have kb : k < b.nums.length := by rw [HL2.out.2.2.2]; exact hl2
              have HST := Lib.hid (Rc.row_step (f := (fun x y : Nat => Nm.sgn x y)) ka kb)
              obtain ⟨z, hz⟩ : ∃ z, Nm.sgn (a.nums[k] : Int) (b.nums[k] : Int) = z := ⟨_, rfl⟩
              have kua : k < (numC a.nums).length := by rw [HL2.out.1]; exact hl1
              have kvb : k < (numC b.nums).length := by rw [HL2.out.2.2.1]; exact hl2
              obtain ⟨ga, rfl, e1⟩ := A2.out.cells _ (below5 HB0.out hb) k kua
              obtain ⟨gb, rfl, e2⟩ := B2.out.cells _ (below5 HB0.out hb) k kvb
              simp only [numC, List.getElem_map] at e1 e2
              have la : a.nums[k] < 4294967296 := NA.out.nums.2 _ (List.getElem_mem ka)
              have lb : b.nums[k] < 4294967296 := NB'.out.nums.2 _ (List.getElem_mem kb)
              obtain ⟨ua, hua⟩ : ∃ u, a.nums[k] = u := ⟨_, rfl⟩
              obtain ⟨ub, hub⟩ : ∃ u, b.nums[k] = u := ⟨_, rfl⟩
              rw [hua] at e1 la hz
              rw [hub] at e2 lb hz
              have hsb := Nm.sgn_sub (ua : Int) (ub : Int)
              rw [hz] at hsb
              have HSB := Lib.hid hsb
              obtain ⟨ea, hea⟩ : ∃ q, ga.add k = q := ⟨_, rfl⟩
              obtain ⟨eb, heb⟩ : ∃ q, gb.add k = q := ⟨_, rfl⟩
              rw [hea] at e1
              rw [heb] at e2
              have HZ := Lib.hid (And.intro hz (And.intro hua hub))
              have laz : (ua : Int) < 4294967296 := by omega
              have lbz : (ub : Int) < 4294967296 := by omega
              clear hua hub hz hsb hb x0 x1 x3 x4 y0 y1 y3 y4
              gi_wp2_with fail
              refine drawnH (List.range 11) (fun w' => w'.cell? ⟨w.heap.size, 2, none⟩ = some (.slice (some ga) m2 qa2) ∧ w'.cell? ⟨w.heap.size + 1, 2, none⟩ = some (.slice (some gb) n2 qb2) ∧ w'.cell? ea = some (.int .u32 (ua : Int)) ∧ w'.cell? eb = some (.int .u32 (ub : Int))) 11 rfl (by kernel_rfl) ?_
              intro wa hwa
              have hS : wa.cell? ⟨w.heap.size, 2, none⟩ = some (.slice (some ga) m2 qa2) ∧ wa.cell? ⟨w.heap.size + 1, 2, none⟩ = some (.slice (some gb) n2 qb2) ∧ wa.cell? ea = some (.int .u32 (ua : Int)) ∧ wa.cell? eb = some (.int .u32 (ub : Int)) := by subst hwa; exact ⟨x2, y2, e1, e2⟩
              have HBA : Hid (Below W0.heap.size W0 wa) := by subst hwa; exact HBL.out.drew
              clear hwa x2 y2 e1 e2
              by_cases h0 : ua = ub
              · subst h0
                refine takeH 0 (v := ?q2v0) (fun _ => trivial) (by rfl) (by kernel_rfl) hS (.inl ⟨by kernel_rfl, fun w1 ⟨x2, y2, e1, e2⟩ => ?q2y0⟩) ?_
                case q2y0 => (go_simp; try first | rfl | (rw [if_pos (by omega)]) | (rw [if_neg (by omega)]) | (rw [if_neg (by simp; omega)]) | (split <;> first | (exfalso; omega) | rfl))
                refine takeH 1 (v := ?q2v1) (fun _ => trivial) (by rfl) (by kernel_rfl) hS (.inl ⟨by kernel_rfl, fun w1 ⟨x2, y2, e1, e2⟩ => ?q2y1⟩) ?_
                case q2y1 => (go_simp; try first | rfl | (rw [if_pos (by omega)]) | (rw [if_neg (by omega)]) | (rw [if_neg (by simp; omega)]) | (split <;> first | (exfalso; omega) | rfl))
                refine takeH 2 (v := ?q2v2) (fun _ => trivial) (by rfl) (by kernel_rfl) hS (.inl ⟨by kernel_rfl, fun w1 ⟨x2, y2, e1, e2⟩ => ?q2y2⟩) ?_
                case q2y2 => (go_simp; try first | rfl | (rw [if_pos (by omega)]) | (rw [if_neg (by omega)]) | (rw [if_neg (by simp; omega)]) | (split <;> first | (exfalso; omega) | rfl))
                refine takeH 3 (v := ?q2v3) (fun _ => trivial) (by rfl) (by kernel_rfl) hS (.inl ⟨by kernel_rfl, fun w1 ⟨x2, y2, e1, e2⟩ => ?q2y3⟩) ?_
                case q2y3 => (go_simp; try first | rfl | (rw [if_pos (by omega)]) | (rw [if_neg (by omega)]) | (rw [if_neg (by simp; omega)]) | (split <;> first | (exfalso; omega) | rfl))
                refine takeH 4 (v := ?q2v4) (fun _ => trivial) (by rfl) (by kernel_rfl) hS (.inl ⟨by kernel_rfl, fun w1 ⟨x2, y2, e1, e2⟩ => ?q2y4⟩) ?_
                case q2y4 => (go_simp; try first | rfl | (rw [if_pos (by omega)]) | (rw [if_neg (by omega)]) | (rw [if_neg (by simp; omega)]) | (split <;> first | (exfalso; omega) | rfl))
                refine takeH 5 (v := ?q2v5) (fun _ => trivial) (by rfl) (by kernel_rfl) hS (.inl ⟨by kernel_rfl, fun w1 ⟨x2, y2, e1, e2⟩ => ?q2y5⟩) ?_
                case q2y5 => (go_simp; try first | rfl | (rw [if_pos (by omega)]) | (rw [if_neg (by omega)]) | (rw [if_neg (by simp; omega)]) | (split <;> first | (exfalso; omega) | rfl))
                refine takeH 6 (v := ?q2v6) (fun _ => trivial) (by rfl) (by kernel_rfl) hS (.inl ⟨by kernel_rfl, fun w1 ⟨x2, y2, e1, e2⟩ => ?q2y6⟩) ?_
                case q2y6 => (go_simp; try first | rfl | (rw [if_pos (by omega)]) | (rw [if_neg (by omega)]) | (rw [if_neg (by simp; omega)]) | (split <;> first | (exfalso; omega) | rfl))
                refine takeH 7 (v := ?q2v7) (fun _ => trivial) (by rfl) (by kernel_rfl) hS (.inl ⟨by kernel_rfl, fun w1 ⟨x2, y2, e1, e2⟩ => ?q2y7⟩) ?_
                case q2y7 => (go_simp; try first | rfl | (rw [if_pos (by omega)]) | (rw [if_neg (by omega)]) | (rw [if_neg (by simp; omega)]) | (split <;> first | (exfalso; omega) | rfl))
                simp only [Act.put, List.setIfInBounds_toArray, List.set_cons_succ, List.set_cons_zero]
                refine takeH 8 (v := ?q2v8) (fun _ => trivial) (by rfl) (by kernel_rfl) hS (.inl ⟨by kernel_rfl, fun w1 ⟨x2, y2, e1, e2⟩ => ?q2y8⟩) ?_
                case q2y8 => (go_simp; try first | rfl | (rw [if_pos (by omega)]) | (rw [if_neg (by omega)]) | (rw [if_neg (by simp; omega)]) | (split <;> first | (exfalso; omega) | rfl))
                refine takeH 9 (v := ?q2v9) (fun _ => trivial) (by rfl) (by kernel_rfl) hS (.inl ⟨by kernel_rfl, fun w1 ⟨x2, y2, e1, e2⟩ => ?q2y9⟩) ?_
                case q2y9 => (go_simp; try first | rfl | (rw [if_pos (by omega)]) | (rw [if_neg (by omega)]) | (rw [if_neg (by simp; omega)]) | (split <;> first | (exfalso; omega) | rfl))
                refine takeH 10 (v := ?q2v10) (fun _ => trivial) (by rfl) (by kernel_rfl) hS (.inl ⟨by kernel_rfl, fun w1 ⟨x2, y2, e1, e2⟩ => ?q2y10⟩) ?_
                case q2y10 => (go_simp; try first | rfl | (rw [if_pos (by omega)]) | (rw [if_neg (by omega)]) | (rw [if_neg (by simp; omega)]) | (split <;> first | (exfalso; omega) | rfl))
                simp only [Act.put, List.setIfInBounds_toArray, List.set_cons_succ, List.set_cons_zero]
                refine doneH (by kernel_rfl) ?_
                gi_wp2_with fail
                refine ⟨⟨k + 1, ⟨hl1, hl2, ?_⟩, by go_num, HBA.out⟩, by simp [intOf]; omega⟩
                rw [HK.out.2.2, HST.out, if_neg (by rw [HZ.out.2.1, HZ.out.2.2]; unfold Nm.sgn; simp)]
              · have h1 : ((ua : Int) != (ub : Int)) = true := by simp; omega
                have h2 : z ≠ 0 := fun e => h0 (by have := Rc.sgn_zero (HZ.out.1.trans e); omega)
                refine takeH 0 (v := ?q3v0) (fun _ => trivial) (by rfl) (by kernel_rfl) hS (.inl ⟨by kernel_rfl, fun w1 ⟨x2, y2, e1, e2⟩ => ?q3y0⟩) ?_
                case q3y0 => (go_simp; try first | rfl | (rw [if_pos (by omega)]) | (rw [if_neg (by omega)]) | (rw [if_neg (by simp; omega)]) | (split <;> first | (exfalso; omega) | rfl))
                refine takeH 1 (v := ?q3v1) (fun _ => trivial) (by rfl) (by kernel_rfl) hS (.inl ⟨by kernel_rfl, fun w1 ⟨x2, y2, e1, e2⟩ => ?q3y1⟩) ?_
                case q3y1 => (go_simp; try first | rfl | (rw [if_pos (by omega)]) | (rw [if_neg (by omega)]) | (rw [if_neg (by simp; omega)]) | (split <;> first | (exfalso; omega) | rfl))
                refine takeH 2 (v := ?q3v2) (fun _ => trivial) (by rfl) (by kernel_rfl) hS (.inl ⟨by kernel_rfl, fun w1 ⟨x2, y2, e1, e2⟩ => ?q3y2⟩) ?_
                case q3y2 => (go_simp; try first | rfl | (rw [if_pos (by omega)]) | (rw [if_neg (by omega)]) | (rw [if_neg (by simp; omega)]) | (split <;> first | (exfalso; omega) | rfl))
                refine takeH 3 (v := ?q3v3) (fun _ => trivial) (by rfl) (by kernel_rfl) hS (.inl ⟨by kernel_rfl, fun w1 ⟨x2, y2, e1, e2⟩ => ?q3y3⟩) ?_
                case q3y3 => (go_simp; try first | rfl | (rw [if_pos (by omega)]) | (rw [if_neg (by omega)]) | (rw [if_neg (by simp; omega)]) | (split <;> first | (exfalso; omega) | rfl))
                refine takeH 4 (v := ?q3v4) (fun _ => trivial) (by rfl) (by kernel_rfl) hS (.inl ⟨by kernel_rfl, fun w1 ⟨x2, y2, e1, e2⟩ => ?q3y4⟩) ?_
                case q3y4 => (go_simp; try first | rfl | (rw [if_pos (by omega)]) | (rw [if_neg (by omega)]) | (rw [if_neg (by simp; omega)]) | (split <;> first | (exfalso; omega) | rfl))
                refine takeH 5 (v := ?q3v5) (fun _ => trivial) (by rfl) (by kernel_rfl) hS (.inl ⟨by kernel_rfl, fun w1 ⟨x2, y2, e1, e2⟩ => ?q3y5⟩) ?_
                case q3y5 => (go_simp; try first | rfl | (rw [if_pos (by omega)]) | (rw [if_neg (by omega)]) | (rw [if_neg (by simp; omega)]) | (split <;> first | (exfalso; omega) | rfl))
                refine takeH 6 (v := ?q3v6) (fun _ => trivial) (by rfl) (by kernel_rfl) hS (.inl ⟨by kernel_rfl, fun w1 ⟨x2, y2, e1, e2⟩ => ?q3y6⟩) ?_
                case q3y6 => (go_simp; try first | rfl | (rw [if_pos (by omega)]) | (rw [if_neg (by omega)]) | (rw [if_neg (by simp; omega)]) | (split <;> first | (exfalso; omega) | rfl))
                refine takeH 7 (v := ?q3v7) (fun _ => trivial) (by rfl) (by kernel_rfl) hS (.inl ⟨by kernel_rfl, fun w1 ⟨x2, y2, e1, e2⟩ => ?q3y7⟩) ?_
                case q3y7 => (go_simp; try first | rfl | (rw [if_pos (by omega)]) | (rw [if_neg (by omega)]) | (rw [if_neg (by simp; omega)]) | (split <;> first | (exfalso; omega) | rfl))
                simp only [Act.put, List.setIfInBounds_toArray, List.set_cons_succ, List.set_cons_zero]
                refine takeH 8 (v := ?q3v8) (fun _ => trivial) (by rfl) (by kernel_rfl) hS (.inl ⟨by kernel_rfl, fun w1 ⟨x2, y2, e1, e2⟩ => ?q3y8⟩) ?_
                case q3y8 => (go_simp; try first | rfl | (rw [if_pos (by omega)]) | (rw [if_neg (by omega)]) | (rw [if_neg (by simp; omega)]) | (split <;> first | (exfalso; omega) | rfl))
                refine takeH 9 (v := ?q3v9) (fun _ => trivial) (by rfl) (by kernel_rfl) hS (.inl ⟨by kernel_rfl, fun w1 ⟨x2, y2, e1, e2⟩ => ?q3y9⟩) ?_
                case q3y9 => (go_simp; try first | rfl | (rw [if_pos (by omega)]) | (rw [if_neg (by omega)]) | (rw [if_neg (by simp; omega)]) | (split <;> first | (exfalso; omega) | rfl))
                refine takeH 10 (v := ?q3v10) (fun _ => trivial) (by rfl) (by kernel_rfl) hS (.inl ⟨by kernel_rfl, fun w1 ⟨x2, y2, e1, e2⟩ => ?q3y10⟩) ?_
                case q3y10 => (go_simp; try first | rfl | (rw [if_pos (by omega)]) | (rw [if_neg (by omega)]) | (rw [if_neg (by simp; omega)]) | (split <;> first | (exfalso; omega) | rfl))
                simp only [Act.put, List.setIfInBounds_toArray, List.set_cons_succ, List.set_cons_zero]
                refine doneH (by kernel_rfl) ?_
                gi_wp2_with fail
                refine drawnH (List.range 14) (fun w' => w'.cell? ⟨w.heap.size, 2, none⟩ = some (.slice (some ga) m2 qa2) ∧ w'.cell? ⟨w.heap.size + 1, 2, none⟩ = some (.slice (some gb) n2 qb2) ∧ w'.cell? ea = some (.int .u32 (ua : Int)) ∧ w'.cell? eb = some (.int .u32 (ub : Int))) 15 rfl (by kernel_rfl) ?_
                intro wb hwb
                replace hS : wb.cell? ⟨w.heap.size, 2, none⟩ = some (.slice (some ga) m2 qa2) ∧ wb.cell? ⟨w.heap.size + 1, 2, none⟩ = some (.slice (some gb) n2 qb2) ∧ wb.cell? ea = some (.int .u32 (ua : Int)) ∧ wb.cell? eb = some (.int .u32 (ub : Int)) := by subst hwb; exact hS
                have HBB : Hid (Below W0.heap.size W0 wb) := by subst hwb; exact HBA.out.drew
                clear hwb
                refine takeH 0 (v := ?q4v0) (fun _ => trivial) (by rfl) (by kernel_rfl) hS (.inl ⟨by kernel_rfl, fun w1 ⟨x2, y2, e1, e2⟩ => ?q4y0⟩) ?_
                case q4y0 => (go_simp; try first | rfl | (rw [if_pos (by omega)]) | (rw [if_neg (by omega)]) | (rw [if_neg (by simp; omega)]) | (split <;> first | (exfalso; omega) | rfl))
                refine takeH 1 (v := ?q4v1) (fun _ => trivial) (by rfl) (by kernel_rfl) hS (.inl ⟨by kernel_rfl, fun w1 ⟨x2, y2, e1, e2⟩ => ?q4y1⟩) ?_
                case q4y1 => (go_simp; try first | rfl | (rw [if_pos (by omega)]) | (rw [if_neg (by omega)]) | (rw [if_neg (by simp; omega)]) | (split <;> first | (exfalso; omega) | rfl))
                refine takeH 2 (v := ?q4v2) (fun _ => trivial) (by rfl) (by kernel_rfl) hS (.inl ⟨by kernel_rfl, fun w1 ⟨x2, y2, e1, e2⟩ => ?q4y2⟩) ?_
                case q4y2 => (go_simp; try first | rfl | (rw [if_pos (by omega)]) | (rw [if_neg (by omega)]) | (rw [if_neg (by simp; omega)]) | (split <;> first | (exfalso; omega) | rfl))
                refine takeH 3 (v := ?q4v3) (fun _ => trivial) (by rfl) (by kernel_rfl) hS (.inl ⟨by kernel_rfl, fun w1 ⟨x2, y2, e1, e2⟩ => ?q4y3⟩) ?_
                case q4y3 => (go_simp; try first | rfl | (rw [if_pos (by omega)]) | (rw [if_neg (by omega)]) | (rw [if_neg (by simp; omega)]) | (split <;> first | (exfalso; omega) | rfl))
                refine takeH 4 (v := ?q4v4) (fun _ => trivial) (by rfl) (by kernel_rfl) hS (.inl ⟨by kernel_rfl, fun w1 ⟨x2, y2, e1, e2⟩ => ?q4y4⟩) ?_
                case q4y4 => (go_simp; try first | rfl | (rw [if_pos (by omega)]) | (rw [if_neg (by omega)]) | (rw [if_neg (by simp; omega)]) | (split <;> first | (exfalso; omega) | rfl))
                refine takeH 5 (v := ?q4v5) (fun _ => trivial) (by rfl) (by kernel_rfl) hS (.inl ⟨by kernel_rfl, fun w1 ⟨x2, y2, e1, e2⟩ => ?q4y5⟩) ?_
                case q4y5 => (go_simp; try first | rfl | (rw [if_pos (by omega)]) | (rw [if_neg (by omega)]) | (rw [if_neg (by simp; omega)]) | (split <;> first | (exfalso; omega) | rfl))
                refine takeH 6 (v := ?q4v6) (fun _ => trivial) (by rfl) (by kernel_rfl) hS (.inl ⟨by kernel_rfl, fun w1 ⟨x2, y2, e1, e2⟩ => ?q4y6⟩) ?_
                case q4y6 => (go_simp; try first | rfl | (rw [if_pos (by omega)]) | (rw [if_neg (by omega)]) | (rw [if_neg (by simp; omega)]) | (split <;> first | (exfalso; omega) | rfl))
                refine takeH 7 (v := ?q4v7) (fun _ => trivial) (by rfl) (by kernel_rfl) hS (.inl ⟨by kernel_rfl, fun w1 ⟨x2, y2, e1, e2⟩ => ?q4y7⟩) ?_
                case q4y7 => (go_simp; try first | rfl | (rw [if_pos (by omega)]) | (rw [if_neg (by omega)]) | (rw [if_neg (by simp; omega)]) | (split <;> first | (exfalso; omega) | rfl))
                simp only [Act.put, List.setIfInBounds_toArray, List.set_cons_succ, List.set_cons_zero]
                refine takeH 8 (v := ?q4v8) (fun _ => trivial) (by rfl) (by kernel_rfl) hS (.inl ⟨by kernel_rfl, fun w1 ⟨x2, y2, e1, e2⟩ => ?q4y8⟩) ?_
                case q4y8 => (go_simp; try first | rfl | (rw [if_pos (by omega)]) | (rw [if_neg (by omega)]) | (rw [if_neg (by simp; omega)]) | (split <;> first | (exfalso; omega) | rfl))
                refine takeH 9 (v := ?q4v9) (fun _ => trivial) (by rfl) (by kernel_rfl) hS (.inl ⟨by kernel_rfl, fun w1 ⟨x2, y2, e1, e2⟩ => ?q4y9⟩) ?_
                case q4y9 => (go_simp; try first | rfl | (rw [if_pos (by omega)]) | (rw [if_neg (by omega)]) | (rw [if_neg (by simp; omega)]) | (split <;> first | (exfalso; omega) | rfl))
                refine takeH 10 (v := ?q4v10) (fun _ => trivial) (by rfl) (by kernel_rfl) hS (.inl ⟨by kernel_rfl, fun w1 ⟨x2, y2, e1, e2⟩ => ?q4y10⟩) ?_
                case q4y10 => (go_simp; try first | rfl | (rw [if_pos (by omega)]) | (rw [if_neg (by omega)]) | (rw [if_neg (by simp; omega)]) | (split <;> first | (exfalso; omega) | rfl))
                refine takeH 11 (v := ?q4v11) (fun _ => trivial) (by rfl) (by kernel_rfl) hS (.inl ⟨by kernel_rfl, fun w1 ⟨x2, y2, e1, e2⟩ => ?q4y11⟩) ?_
                case q4y11 => (go_simp; try first | rfl | (rw [if_pos (by omega)]) | (rw [if_neg (by omega)]) | (rw [if_neg (by simp; omega)]) | (split <;> first | (exfalso; omega) | rfl))
                refine takeH 12 (v := ?q4v12) (fun _ => trivial) (by rfl) (by kernel_rfl) hS (.inl ⟨by kernel_rfl, fun w1 ⟨x2, y2, e1, e2⟩ => ?q4y12⟩) ?_
                case q4y12 => (go_simp; try first | rfl | (rw [if_pos (by omega)]) | (rw [if_neg (by omega)]) | (rw [if_neg (by simp; omega)]) | (split <;> first | (exfalso; omega) | rfl))
                simp only [Act.put, List.setIfInBounds_toArray, List.set_cons_succ, List.set_cons_zero]
                refine oneH 13 (by rfl) (by kernel_rfl) (fun K hK => ?_)
                gi_wp2_with (gi_at_call 119; refine (callsIn_wide.2 (sign_any _ _)).mono ?_; rintro e w1 ⟨rfl, rfl⟩; rw [← HSB.out])
                refine hK _ _ (fun _ => hS) ?_
                clear hK K hS
                refine oneH 14 (by rfl) (by kernel_rfl) (fun K hK => ?_)
                gi_wp2_with fail
                refine hK _ _ (fun h => absurd h (by decide)) ?_
                clear hK K hea heb
                refine doneH (by kernel_rfl) ?_
                gi_wp2_with fail
                go_ret
                refine ⟨?_, below5 HB0.out HBB.out⟩
                rw [HC.out, HK.out.2.2, HST.out, HZ.out.2.1, HZ.out.2.2, if_pos (by rw [HZ.out.1]; exact h2), HZ.out.1, Rc.orI_left h2]; rfl
            · have HEND : Hid (Rc.row (fun x y : Nat => Nm.sgn x y) a.nums b.nums = Nm.sgn ((m2 : Int) - (n2 : Int)) 0) := by
                show _ = _
                have h1 := HK.out
                rw [h1.2.2, Rc.row_end (by rw [HL2.out.2.1]; exact h1.1) (by rw [HL2.out.2.2.2]; exact h1.2.1) (by rw [HL2.out.2.1, HL2.out.2.2.2]; omega), HL2.out.2.1, HL2.out.2.2.2]
              have hw : IntKind.i64.wrap ((m2 : Int) - (n2 : Int)) = (m2 : Int) - (n2 : Int) := IntWalk.i64_in _ (by omega)
              by_cases hmn : m2 = n2
              · subst hmn
                have hk : k = m2 := by have h1 := HK.out; omega
                have hz1 : ¬ (k : Int) < (m2 : Int) := by omega
                have HZ0 : Hid (Rc.row (fun x y : Nat => Nm.sgn x y) a.nums b.nums = 0) := by show _ = _; rw [HEND.out, Int.sub_self]; rfl
                replace HC := Lib.hid (HC.out.trans (by rw [HZ0.out, Rc.orI_right]))
                have HBL3 := Lib.hid HBL.out
                clear hb hlt hw hk
                gi_wp2_with fail
                clear x0 x1 x2 x3 x4 y0 y1 y2 y3 y4
                gi_loopw [8, 9] (fun v8 _ W => ∃ k : Nat, Hid (k ≤ m3 ∧ k ≤ n3 ∧ Rc.row Lib.compareBytes a.texts b.texts = Rc.row Lib.compareBytes (a.texts.drop k) (b.texts.drop k)) ∧ v8 = .int .i64 k ∧ Below W0.heap.size W0 W) (fun v8 _ _ => m3 - (intOf v8).toNat)
                case atStart => exact ⟨0, ⟨Nat.zero_le _, Nat.zero_le _, rfl⟩, rfl, HBL3.out⟩
                case round =>
                  obtain ⟨k, HK, rfl, hb⟩ := hrel
                  obtain ⟨⟨x0, x1, x2, x3, x4⟩, y0, y1, y2, y3, y4⟩ := HBX.out _ hb
                  have HBL := Lib.hid hb
                  by_cases hlt : k < m3 ∧ k < n3
                  · obtain ⟨hl1, hl2⟩ := hlt
                    have hz1 : (k : Int) < (m3 : Int) := by omega
                    have hz2 : (k : Int) < (n3 : Int) := by omega
                    have ka : k < a.texts.length := by rw [HL3.out.1]; exact hl1
                    have kb : k < b.texts.length := by rw [HL3.out.2]; exact hl2
                    have HST := Lib.hid (Rc.row_step (f := Lib.compareBytes) ka kb)
                    obtain ⟨z, hz⟩ : ∃ z, Lib.compareBytes a.texts[k] b.texts[k] = z := ⟨_, rfl⟩
                    obtain ⟨ga, rfl, e1⟩ := A3.out.sl.cells _ (below5 HB0.out hb) k (by simpa using ka)
                    obtain ⟨gb, rfl, e2⟩ := B3.out.sl.cells _ (below5 HB0.out hb) k (by simpa using kb)
                    simp only [List.getElem_map] at e1 e2
                    obtain ⟨ua, hua⟩ : ∃ u, a.texts[k] = u := ⟨_, rfl⟩
                    obtain ⟨ub, hub⟩ : ∃ u, b.texts[k] = u := ⟨_, rfl⟩
                    rw [hua] at e1 hz
                    rw [hub] at e2 hz
                    obtain ⟨ea, hea⟩ : ∃ q, ga.add k = q := ⟨_, rfl⟩
                    obtain ⟨eb, heb⟩ : ∃ q, gb.add k = q := ⟨_, rfl⟩
                    rw [hea] at e1
                    rw [heb] at e2
                    have HZ := Lib.hid (And.intro hz (And.intro hua hub))
                    clear hua hub hz hb x0 x1 x2 x4 y0 y1 y2 y4
                    gi_wp2_with fail
                    refine drawnH (List.range 11) (fun w' => w'.cell? ⟨w.heap.size, 3, none⟩ = some (.slice (some ga) m3 qa3) ∧ w'.cell? ⟨w.heap.size + 1, 3, none⟩ = some (.slice (some gb) n3 qb3) ∧ w'.cell? ea = some (S ua) ∧ w'.cell? eb = some (S ub)) 12 rfl (by kernel_rfl) ?_
                    intro wa hwa
                    have hS : wa.cell? ⟨w.heap.size, 3, none⟩ = some (.slice (some ga) m3 qa3) ∧ wa.cell? ⟨w.heap.size + 1, 3, none⟩ = some (.slice (some gb) n3 qb3) ∧ wa.cell? ea = some (S ua) ∧ wa.cell? eb = some (S ub) := by subst hwa; exact ⟨x3, y3, e1, e2⟩
                    have HBA : Hid (Below W0.heap.size W0 wa) := by subst hwa; exact HBL.out.drew
                    clear hwa x3 y3 e1 e2
                    refine takeH 0 (v := ?q5v0) (fun _ => trivial) (by rfl) (by kernel_rfl) hS (.inl ⟨by kernel_rfl, fun w1 ⟨x3, y3, e1, e2⟩ => ?q5y0⟩) ?_
                    case q5y0 => (go_simp; try first | rfl | (rw [if_pos (by omega)]) | (rw [if_neg (by omega)]) | (rw [if_neg (by simp; omega)]) | (split <;> first | (exfalso; omega) | rfl))
                    refine takeH 1 (v := ?q5v1) (fun _ => trivial) (by rfl) (by kernel_rfl) hS (.inl ⟨by kernel_rfl, fun w1 ⟨x3, y3, e1, e2⟩ => ?q5y1⟩) ?_
                    case q5y1 => (go_simp; try first | rfl | (rw [if_pos (by omega)]) | (rw [if_neg (by omega)]) | (rw [if_neg (by simp; omega)]) | (split <;> first | (exfalso; omega) | rfl))
                    refine takeH 2 (v := ?q5v2) (fun _ => trivial) (by rfl) (by kernel_rfl) hS (.inl ⟨by kernel_rfl, fun w1 ⟨x3, y3, e1, e2⟩ => ?q5y2⟩) ?_
                    case q5y2 => (go_simp; try first | rfl | (rw [if_pos (by omega)]) | (rw [if_neg (by omega)]) | (rw [if_neg (by simp; omega)]) | (split <;> first | (exfalso; omega) | rfl))
                    refine takeH 3 (v := ?q5v3) (fun _ => trivial) (by rfl) (by kernel_rfl) hS (.inl ⟨by kernel_rfl, fun w1 ⟨x3, y3, e1, e2⟩ => ?q5y3⟩) ?_
                    case q5y3 => (go_simp; try first | rfl | (rw [if_pos (by omega)]) | (rw [if_neg (by omega)]) | (rw [if_neg (by simp; omega)]) | (split <;> first | (exfalso; omega) | rfl))
                    refine takeH 4 (v := ?q5v4) (fun _ => trivial) (by rfl) (by kernel_rfl) hS (.inl ⟨by kernel_rfl, fun w1 ⟨x3, y3, e1, e2⟩ => ?q5y4⟩) ?_
                    case q5y4 => (go_simp; try first | rfl | (rw [if_pos (by omega)]) | (rw [if_neg (by omega)]) | (rw [if_neg (by simp; omega)]) | (split <;> first | (exfalso; omega) | rfl))
                    refine takeH 5 (v := ?q5v5) (fun _ => trivial) (by rfl) (by kernel_rfl) hS (.inl ⟨by kernel_rfl, fun w1 ⟨x3, y3, e1, e2⟩ => ?q5y5⟩) ?_
                    case q5y5 => (go_simp; try first | rfl | (rw [if_pos (by omega)]) | (rw [if_neg (by omega)]) | (rw [if_neg (by simp; omega)]) | (split <;> first | (exfalso; omega) | rfl))
                    refine takeH 6 (v := ?q5v6) (fun _ => trivial) (by rfl) (by kernel_rfl) hS (.inl ⟨by kernel_rfl, fun w1 ⟨x3, y3, e1, e2⟩ => ?q5y6⟩) ?_
                    case q5y6 => (go_simp; try first | rfl | (rw [if_pos (by omega)]) | (rw [if_neg (by omega)]) | (rw [if_neg (by simp; omega)]) | (split <;> first | (exfalso; omega) | rfl))
                    refine takeH 7 (v := ?q5v7) (fun _ => trivial) (by rfl) (by kernel_rfl) hS (.inl ⟨by kernel_rfl, fun w1 ⟨x3, y3, e1, e2⟩ => ?q5y7⟩) ?_
                    case q5y7 => (go_simp; try first | rfl | (rw [if_pos (by omega)]) | (rw [if_neg (by omega)]) | (rw [if_neg (by simp; omega)]) | (split <;> first | (exfalso; omega) | rfl))
                    simp only [Act.put, List.setIfInBounds_toArray, List.set_cons_succ, List.set_cons_zero]
                    refine takeH 8 (v := ?q5v8) (fun _ => trivial) (by rfl) (by kernel_rfl) hS (.inl ⟨by kernel_rfl, fun w1 ⟨x3, y3, e1, e2⟩ => ?q5y8⟩) ?_
                    case q5y8 => (go_simp; try first | rfl | (rw [if_pos (by omega)]) | (rw [if_neg (by omega)]) | (rw [if_neg (by simp; omega)]) | (split <;> first | (exfalso; omega) | rfl))
                    refine takeH 9 (v := ?q5v9) (fun _ => trivial) (by rfl) (by kernel_rfl) hS (.inl ⟨by kernel_rfl, fun w1 ⟨x3, y3, e1, e2⟩ => ?q5y9⟩) ?_
                    case q5y9 => (go_simp; try first | rfl | (rw [if_pos (by omega)]) | (rw [if_neg (by omega)]) | (rw [if_neg (by simp; omega)]) | (split <;> first | (exfalso; omega) | rfl))
                    simp only [Act.put, List.setIfInBounds_toArray, List.set_cons_succ, List.set_cons_zero]
                    refine oneH 10 (by rfl) (by kernel_rfl) (fun K hK => ?_)
                    gi_wp2_with (gi_at_call 120; refine (callsIn_wide.2 (refOrder_any ua ub _)).mono ?_; rintro e w1 ⟨rfl, rfl⟩; rw [HZ.out.1])
                    refine hK _ _ (fun _ => hS) ?_
                    clear hK K hS
                    refine oneH 11 (by rfl) (by kernel_rfl) (fun K hK => ?_)
                    gi_wp2_with fail
                    refine hK _ _ (fun h => absurd h (by decide)) ?_
                    clear hK K hea heb
                    refine doneH (by kernel_rfl) ?_
                    by_cases h0 : z = 0
                    · subst h0
                      gi_wp2_with fail
                      refine ⟨⟨k + 1, ⟨hl1, hl2, ?_⟩, by go_num, HBA.out⟩, by simp [intOf]; omega⟩
                      rw [HK.out.2.2, HST.out, HZ.out.2.1, HZ.out.2.2, if_neg (by rw [HZ.out.1]; simp)]
                    · have h1 : (z != 0) = true := by simp [h0]
                      gi_wp2_with fail
                      go_ret
                      refine ⟨?_, below5 HB0.out HBA.out⟩
                      rw [HC.out, HK.out.2.2, HST.out, HZ.out.2.1, HZ.out.2.2, if_pos (by rw [HZ.out.1]; exact h0), HZ.out.1, Rc.orI_left h0]; rfl
                  · have HEND : Hid (Rc.row Lib.compareBytes a.texts b.texts = Nm.sgn ((m3 : Int) - (n3 : Int)) 0) := by
                      show _ = _
                      have h1 := HK.out
                      rw [h1.2.2, Rc.row_end (by rw [HL3.out.1]; exact h1.1) (by rw [HL3.out.2]; exact h1.2.1) (by rw [HL3.out.1, HL3.out.2]; omega), HL3.out.1, HL3.out.2]
                    have hw : IntKind.i64.wrap ((m3 : Int) - (n3 : Int)) = (m3 : Int) - (n3 : Int) := IntWalk.i64_in _ (by omega)
                    by_cases hmn : m3 = n3
                    · subst hmn
                      have hk : k = m3 := by have h1 := HK.out; omega
                      have hz1 : ¬ (k : Int) < (m3 : Int) := by omega
                      have HZ0 : Hid (Rc.row Lib.compareBytes a.texts b.texts = 0) := by show _ = _; rw [HEND.out, Int.sub_self]; rfl
                      replace HC := Lib.hid (HC.out.trans (by rw [HZ0.out, Rc.orI_right]))
                      have HBL4 := Lib.hid HBL.out
                      clear hb hlt hw hk
                      have HCA := Lib.hid (conv_bt (A4.out.below (below5 HB0.out HBL.out)))
                      have HCB := Lib.hid (conv_bt (B4.out.below (below5 HB0.out HBL.out)))
                      have hca := HCA.out
                      have hcb := HCB.out
                      gi_wp2_with (gi_at_call 120; refine (callsIn_wide.2 (refOrder_any a.raw b.raw _)).mono ?_; rintro e w1 ⟨rfl, rfl⟩; rw [← HC.out])
                      go_ret
                      exact ⟨rfl, below5 HB0.out HBL.out⟩
                    · have HNE := Lib.hid (sgn_ne hmn)
                      have h1 : ((m3 : Int) != (n3 : Int)) = true := by simp; omega
                      have h2 : Nm.sgn ((m3 : Int) - (n3 : Int)) 0 ≠ 0 := sgn_ne hmn
                      have HFIN : Hid (Rc.cmpD a b = Nm.sgn ((m3 : Int) - (n3 : Int)) 0) := by show _ = _; rw [HC.out, HEND.out, Rc.orI_left h2]
                      clear hb h2
                      by_cases hl : k < m3
                      · have hz1 : (k : Int) < (m3 : Int) := by omega
                        have hz2 : ¬ (k : Int) < (n3 : Int) := by omega
                        gi_wp2_with (gi_at_call 119; refine (callsIn_wide.2 (sign_any _ _)).mono ?_; rintro e w1 ⟨rfl, rfl⟩; rw [← HFIN.out])
                        go_ret
                        exact ⟨rfl, below5 HB0.out HBL.out⟩
                      · have hz1 : ¬ (k : Int) < (m3 : Int) := by omega
                        gi_wp2_with (gi_at_call 119; refine (callsIn_wide.2 (sign_any _ _)).mono ?_; rintro e w1 ⟨rfl, rfl⟩; rw [← HFIN.out])
                        go_ret
                        exact ⟨rfl, below5 HB0.out HBL.out⟩
              · have HNE := Lib.hid (sgn_ne hmn)
                have h1 : ((m2 : Int) != (n2 : Int)) = true := by simp; omega
                have h2 : Nm.sgn ((m2 : Int) - (n2 : Int)) 0 ≠ 0 := sgn_ne hmn
                have HFIN : Hid (Rc.cmpD a b = Nm.sgn ((m2 : Int) - (n2 : Int)) 0) := by show _ = _; rw [HC.out, HEND.out, Rc.orI_left h2]
                clear hb h2
                by_cases hl : k < m2
                · have hz1 : (k : Int) < (m2 : Int) := by omega
                  have hz2 : ¬ (k : Int) < (n2 : Int) := by omega
                  gi_wp2_with (gi_at_call 119; refine (callsIn_wide.2 (sign_any _ _)).mono ?_; rintro e w1 ⟨rfl, rfl⟩; rw [← HFIN.out])
                  go_ret
                  exact ⟨rfl, below5 HB0.out HBL.out⟩
                · have hz1 : ¬ (k : Int) < (m2 : Int) := by omega
                  gi_wp2_with (gi_at_call 119; refine (callsIn_wide.2 (sign_any _ _)).mono ?_; rintro e w1 ⟨rfl, rfl⟩; rw [← HFIN.out])
                  go_ret
                  exact ⟨rfl, below5 HB0.out HBL.out⟩
        · have HNE := Lib.hid (sgn_ne hmn)
          have h1 : ((m1 : Int) != (n1 : Int)) = true := by simp; omega
          have h2 : Nm.sgn ((m1 : Int) - (n1 : Int)) 0 ≠ 0 := sgn_ne hmn
          have HFIN : Hid (Rc.cmpD a b = Nm.sgn ((m1 : Int) - (n1 : Int)) 0) := by show _ = _; rw [HC.out, HEND.out, Rc.orI_left h2]
          clear hb h2
          by_cases hl : k < m1
          · have hz1 : (k : Int) < (m1 : Int) := by omega
            have hz2 : ¬ (k : Int) < (n1 : Int) := by omega
            gi_wp2_with (gi_at_call 119; refine (callsIn_wide.2 (sign_any _ _)).mono ?_; rintro e w1 ⟨rfl, rfl⟩; rw [← HFIN.out])
            go_ret
            exact ⟨rfl, below5 HB0.out HBL.out⟩
          · have hz1 : ¬ (k : Int) < (m1 : Int) := by omega
            gi_wp2_with (gi_at_call 119; refine (callsIn_wide.2 (sign_any _ _)).mono ?_; rintro e w1 ⟨rfl, rfl⟩; rw [← HFIN.out])
            go_ret
            exact ⟨rfl, below5 HB0.out HBL.out⟩
end Go.Proofs.Ytneghhbclefmoaa
end
section
namespace Go.Proofs.Ytneghhbclefmoaa
open Go.RowKit Go.Shelf Go.Sort Go.ChangeShapes Go.WideShapes
set_option maxRecDepth 100000

/-- what data hold, in five cells, written out -/
theorem DatRd.cells5 {vs : List Value} {r : Rc.PRec} {W : World} (h : DatRd vs r W) : ∃ us p1 q1 p2 n2 q2 p3 n3 q3 p4 n4 q4, vs = [.int .i64 r.type, .slice p1 us.length q1, .slice p2 n2 q2, .slice p3 n3 q3, .slice p4 n4 q4] ∧ Sl (.slice p1 us.length q1) us W ∧ us.length = r.names.length ∧ (∀ u ∈ us, ∃ o l c, u = .slice o l c) := by
  obtain ⟨vn, vm, vt, vr, rfl, ⟨us, u1, u2, u3⟩, h2, h3, h4⟩ := h
  obtain ⟨p1, q1, e1, _⟩ := u2.form
  obtain ⟨p2, q2, e2, _⟩ := h2.form
  obtain ⟨p3, q3, e3, _⟩ := h3.form
  obtain ⟨p4, q4, e4, _⟩ := Sl.form h4
  subst e1; subst e2; subst e3; subst e4
  refine ⟨us, p1, q1, p2, _, q2, p3, _, q3, p4, _, q4, rfl, u2, u1, fun u hu => ?_⟩
  obtain ⟨i, hi, rfl⟩ := List.mem_iff_getElem.1 hu
  obtain ⟨o, c, e, _⟩ := (u3 i hi (by omega)).form
  exact ⟨_, _, _, e⟩
theorem DatRd.ok {vs : List Value} {r : Rc.PRec} {W : World} (h : DatRd vs r W) : vs.length = 5 ∧ ∀ u ∈ vs, u.oneCell' = true := by
  obtain ⟨us, p1, q1, p2, n2, q2, p3, n3, q3, p4, n4, q4, rfl, _⟩ := h.cells5
  refine ⟨rfl, fun u hu => ?_⟩
  simp only [List.mem_cons, List.not_mem_nil, or_false] at hu
  rcases hu with rfl | rfl | rfl | rfl | rfl <;> rfl
/-- a value that reads as a row of data -/
def DtsRd (v : Value) (l : List RP) (W : World) : Prop := GRd 5 v (l.map (·.1)) W ∧ ∀ x ∈ l, DatRd x.1 x.2 W
theorem DtsRd.below {v : Value} {l : List RP} {W W' : World} (h : DtsRd v l W) (hb : Below W.heap.size W W') : DtsRd v l W' := ⟨h.1.below hb, fun x hx => (h.2 x hx).below hb⟩
theorem DtsRd.form {v : Value} {l : List RP} {W : World} (h : DtsRd v l W) : ∃ o cap, v = .slice o l.length cap ∧ l.length ≤ cap ∧ cap ≤ 9223372036854775807 := by
  obtain ⟨o, cap, h1, h2, h3⟩ := h.1.form
  rw [List.length_map] at h1 h2
  exact ⟨o, cap, h1, h2, h3⟩
theorem DtsRd.el {o : Option Addr} {n cap : Nat} {l : List RP} {W : World} (h : DtsRd (.slice o n cap) l W) : ∀ W', Below W.heap.size W W' → ∀ (i : Nat) (hi : i < l.length) (c0 c1 c2 c3 c4 : Value), l[i].1 = [c0, c1, c2, c3, c4] → ∃ a, o = some a ∧
    W'.cell? (a.add (i * 5)) = some c0 ∧ W'.cell? ⟨(a.add (i * 5)).block, (a.add (i * 5)).off + 1, none⟩ = some c1 ∧ W'.cell? ⟨(a.add (i * 5)).block, (a.add (i * 5)).off + 2, none⟩ = some c2 ∧ W'.cell? ⟨(a.add (i * 5)).block, (a.add (i * 5)).off + 3, none⟩ = some c3 ∧ W'.cell? ⟨(a.add (i * 5)).block, (a.add (i * 5)).off + 4, none⟩ = some c4 := by
  intro W' hb i hi c0 c1 c2 c3 c4 hx
  obtain ⟨a, ha, h0, h1⟩ := (h.1.below hb).at (by decide) i (by simpa using hi)
  simp only [List.getElem_map, hx] at h0 h1
  exact ⟨a, ha, h0, h1 1 (by decide) (by decide), h1 2 (by decide) (by decide), h1 3 (by decide) (by decide), h1 4 (by decide) (by decide)⟩
set_option maxHeartbeats 1000000 in
theorem refSameData_any (va vb : List Value) (a b : Rc.PRec) (w : World) (ha : DatRd va a w) (hb : DatRd vb b w) (na : RB a) (nb : RB b) :
    Calls Try.prog 71 #[.agg va.toArray, .agg vb.toArray] w (Gives (.bool (Rc.cmpD a b == 0)) w) := by
  have HA := Lib.hid ha
  have HB := Lib.hid hb
  obtain ⟨us, p1, q1, p2, n2, q2, p3, n3, q3, p4, n4, q4, rfl, _⟩ := ha.cells5
  obtain ⟨vs, r1, t1, r2, k2, t2, r3, k3, t3, r4, k4, t4, rfl, _⟩ := hb.cells5
  have NA := Lib.hid na
  have NB' := Lib.hid nb
  clear na nb ha hb
  obtain ⟨n1, hn1⟩ : ∃ n, us.length = n := ⟨_, rfl⟩
  obtain ⟨k1, hk1⟩ : ∃ n, vs.length = n := ⟨_, rfl⟩
  rw [hn1] at HA ⊢
  rw [hk1] at HB ⊢
  have hz : ∀ z : Int, (decide (z = 0)) = (z == 0) := fun z => by by_cases h : z = 0 <;> simp [h]
  clear hn1 hk1
  go_enter Try.func71, Try.ntmps71
  go_wp2_with fail
  refine (refCompareData_any [.int .i64 a.type, .slice p1 n1 q1, .slice p2 n2 q2, .slice p3 n3 q3, .slice p4 n4 q4] [.int .i64 b.type, .slice r1 k1 t1, .slice r2 k2 t2, .slice r3 k3 t3, .slice r4 k4 t4] a b _ (HA.out.below (((Below.refl _ _).alloc (Nat.le_refl _) _).alloc (by simp) _)) (HB.out.below (((Below.refl _ _).alloc (Nat.le_refl _) _).alloc (by simp) _)) NA.out NB'.out).mono ?_
  rintro e w1 ⟨rfl, b1⟩
  have hb1 := (((Below.refl w.heap.size w).alloc (Nat.le_refl _) _).alloc (by simp) _).trans (b1.mono (by simp; omega))
  go_wp2_with fail
  go_ret
  exact ⟨by first | rfl | simp [hz], hb1⟩
def plD (l : List RP) : List Rc.PRec := l.map (·.2)
set_option maxHeartbeats 2000000 in
theorem refSameDatas_any (v u : Value) (a b : List RP) (w : World) (hv : DtsRd v a w) (hu : DtsRd u b w) (na : a.length ≤ 1000) (ra : ∀ x ∈ a, RB x.2) (rb : ∀ x ∈ b, RB x.2) :
    Calls Try.prog 41 #[v, u] w (Gives (.bool (Rs.sameDats (plD a) (plD b))) w) := by
  obtain ⟨o, cap, rfl, c1, c2⟩ := hv.form
  obtain ⟨o', cap', rfl, c3, c4⟩ := hu.form
  have HV := Lib.hid hv.el
  have HU := Lib.hid hu.el
  have HDA := Lib.hid hv.2
  have HDB := Lib.hid hu.2
  have HRA := Lib.hid ra
  have HRB := Lib.hid rb
  clear hv hu ra rb
  by_cases hab : a.length = b.length
  · have h1 : ((a.length : Int) != b.length) = false := by simp [hab]
    have na' : (a.length : Int) ≤ 1000 := by omega
    have HAB := Lib.hid hab
    clear hab
    refine (callsIn_wide (n := 0)).1 ?_
    refine callsIn_of_wp Try.func41 rfl trivial ?_ rfl
    simp only [Try.ntmps41, List.size_toArray, List.length_cons, List.length_nil, Nat.reduceAdd, Nat.reduceSub, Array.replicate_succ, Array.replicate_zero, List.push_toArray, List.append_toArray, List.nil_append, List.cons_append]
    gi_wp2_with fail
    gi_loopw [5] (fun i wr => ∃ k : Nat, Hid (k ≤ a.length ∧ Rs.sameDats (plD a) (plD b) = Rs.sameDats (plD (a.drop k)) (plD (b.drop k))) ∧ i = .int .i64 k ∧ Below w.heap.size w wr) (fun i _ => a.length - (intOf i).toNat)
    case atStart => exact ⟨0, ⟨by omega, rfl⟩, rfl, Below.refl _ _⟩
    case round =>
      obtain ⟨k, hto, rfl, hb⟩ := hrel
      by_cases hlt : k < a.length
      · have hltz : (k : Int) < (a.length : Int) := by omega
        have hkb : k < b.length := by have := HAB.out; omega
        have hltz2 : (k : Int) < (b.length : Int) := by omega
        obtain ⟨x, hx⟩ : ∃ x, a[k] = x := ⟨_, rfl⟩
        obtain ⟨y, hy⟩ : ∃ y, b[k] = y := ⟨_, rfl⟩
        have hdx := HDA.out x (by rw [← hx]; exact List.getElem_mem _)
        have hdy := HDB.out y (by rw [← hy]; exact List.getElem_mem _)
        have hrx := HRA.out x (by rw [← hx]; exact List.getElem_mem _)
        have hry := HRB.out y (by rw [← hy]; exact List.getElem_mem _)
        obtain ⟨us, p1, q1, p2, n2, q2, p3, n3, q3, p4, n4, q4, ex, _⟩ := hdx.cells5
        obtain ⟨vs, r1, t1, r2, k2, t2, r3, k3, t3, r4, k4, t4, ey, _⟩ := hdy.cells5
        obtain ⟨n1, hn1⟩ : ∃ n, us.length = n := ⟨_, rfl⟩
        obtain ⟨k1, hk1⟩ : ∃ n, vs.length = n := ⟨_, rfl⟩
        rw [hn1] at ex
        rw [hk1] at ey
        rw [ex] at hdx
        rw [ey] at hdy
        obtain ⟨ga, rfl, e0, e1, e2, e3, e4⟩ := HV.out _ hb k hlt _ _ _ _ _ (by rw [hx]; exact ex)
        obtain ⟨gb, rfl, f0, f1, f2, f3, f4⟩ := HU.out _ hb k hkb _ _ _ _ _ (by rw [hy]; exact ey)
        obtain ⟨ea, hea⟩ : ∃ q, ga.add (k * 5) = q := ⟨_, rfl⟩
        obtain ⟨eb, heb⟩ : ∃ q, gb.add (k * 5) = q := ⟨_, rfl⟩
        rw [hea] at e0 e1 e2 e3 e4
        rw [heb] at f0 f1 f2 f3 f4
        have HZ : Hid (Rs.sameDats (plD (a.drop k)) (plD (b.drop k)) = ((Rc.cmpD x.2 y.2 == 0) && Rs.sameDats (plD (a.drop (k + 1))) (plD (b.drop (k + 1))))) := by
          show _ = _
          rw [List.drop_eq_getElem_cons hlt, List.drop_eq_getElem_cons hkb, hx, hy]; rfl
        obtain ⟨bz, hbz⟩ : ∃ bz, (Rc.cmpD x.2 y.2 == 0) = bz := ⟨_, rfl⟩
        have HC := Lib.hid (fun W' (hW : Below w.heap.size w W') => refSameData_any _ _ x.2 y.2 W' (hdx.below hW) (hdy.below hW) hrx hry)
        rw [hbz] at HC HZ
        have HS : Hid (Cs [(ea, .int .i64 x.2.type), (⟨ea.block, ea.off + 1, none⟩, .slice p1 n1 q1), (⟨ea.block, ea.off + 2, none⟩, .slice p2 n2 q2), (⟨ea.block, ea.off + 3, none⟩, .slice p3 n3 q3), (⟨ea.block, ea.off + 4, none⟩, .slice p4 n4 q4), (eb, .int .i64 y.2.type), (⟨eb.block, eb.off + 1, none⟩, .slice r1 k1 t1), (⟨eb.block, eb.off + 2, none⟩, .slice r2 k2 t2), (⟨eb.block, eb.off + 3, none⟩, .slice r3 k3 t3), (⟨eb.block, eb.off + 4, none⟩, .slice r4 k4 t4)] wr) := ⟨e0, e1, e2, e3, e4, f0, f1, f2, f3, f4, trivial⟩
        have HB := Lib.hid hb
        clear hx hy ex ey hdx hdy hrx hry hbz hb e0 e1 e2 e3 e4 f0 f1 f2 f3 f4 hn1 hk1
        gi_wp2_with fail
        refine drawnH (List.range 10) (Cs [(ea, .int .i64 x.2.type), (⟨ea.block, ea.off + 1, none⟩, .slice p1 n1 q1), (⟨ea.block, ea.off + 2, none⟩, .slice p2 n2 q2), (⟨ea.block, ea.off + 3, none⟩, .slice p3 n3 q3), (⟨ea.block, ea.off + 4, none⟩, .slice p4 n4 q4), (eb, .int .i64 y.2.type), (⟨eb.block, eb.off + 1, none⟩, .slice r1 k1 t1), (⟨eb.block, eb.off + 2, none⟩, .slice r2 k2 t2), (⟨eb.block, eb.off + 3, none⟩, .slice r3 k3 t3), (⟨eb.block, eb.off + 4, none⟩, .slice r4 k4 t4)]) 10 rfl (by kernel_rfl) ?_
        intro wa hwa
        have hS : Cs [(ea, .int .i64 x.2.type), (⟨ea.block, ea.off + 1, none⟩, .slice p1 n1 q1), (⟨ea.block, ea.off + 2, none⟩, .slice p2 n2 q2), (⟨ea.block, ea.off + 3, none⟩, .slice p3 n3 q3), (⟨ea.block, ea.off + 4, none⟩, .slice p4 n4 q4), (eb, .int .i64 y.2.type), (⟨eb.block, eb.off + 1, none⟩, .slice r1 k1 t1), (⟨eb.block, eb.off + 2, none⟩, .slice r2 k2 t2), (⟨eb.block, eb.off + 3, none⟩, .slice r3 k3 t3), (⟨eb.block, eb.off + 4, none⟩, .slice r4 k4 t4)] wa := by subst hwa; exact HS.out.drew
        have HBA : Hid (Below w.heap.size w wa) := by subst hwa; exact HB.out.drew
        clear hwa
        refine takeH 0 (v := ?qav0) (fun _ => trivial) (by rfl) (by kernel_rfl) hS (.inl ⟨by kernel_rfl, fun w1 ⟨c0, c1, c2, c3, c4, d0, d1, d2, d3, d4, _⟩ => ?qay0⟩) ?_
        case qay0 => (go_simp; try first | rfl | (rw [if_pos (by omega)]) | (rw [if_neg (by omega)]) | (rw [if_neg (by simp; omega)]) | (split <;> first | (exfalso; omega) | rfl))
        refine takeH 1 (v := ?qav1) (fun _ => trivial) (by rfl) (by kernel_rfl) hS (.inl ⟨by kernel_rfl, fun w1 ⟨c0, c1, c2, c3, c4, d0, d1, d2, d3, d4, _⟩ => ?qay1⟩) ?_
        case qay1 => (go_simp; try first | rfl | (rw [if_pos (by omega)]) | (rw [if_neg (by omega)]) | (rw [if_neg (by simp; omega)]) | (split <;> first | (exfalso; omega) | rfl))
        refine takeH 2 (v := ?qav2) (fun _ => trivial) (by rfl) (by kernel_rfl) hS (.inl ⟨by kernel_rfl, fun w1 ⟨c0, c1, c2, c3, c4, d0, d1, d2, d3, d4, _⟩ => ?qay2⟩) ?_
        case qay2 => (go_simp; try first | rfl | (rw [if_pos (by omega)]) | (rw [if_neg (by omega)]) | (rw [if_neg (by simp; omega)]) | (split <;> first | (exfalso; omega) | rfl))
        refine takeH 3 (v := ?qav3) (fun _ => trivial) (by rfl) (by kernel_rfl) hS (.inl ⟨by kernel_rfl, fun w1 ⟨c0, c1, c2, c3, c4, d0, d1, d2, d3, d4, _⟩ => ?qay3⟩) ?_
        case qay3 => (go_simp; try first | rfl | (rw [if_pos (by omega)]) | (rw [if_neg (by omega)]) | (rw [if_neg (by simp; omega)]) | (split <;> first | (exfalso; omega) | rfl))
        refine takeH 4 (v := ?qav4) (fun _ => trivial) (by rfl) (by kernel_rfl) hS (.inl ⟨by kernel_rfl, fun w1 ⟨c0, c1, c2, c3, c4, d0, d1, d2, d3, d4, _⟩ => ?qay4⟩) ?_
        case qay4 => (go_simp; try first | rfl | (rw [if_pos (by omega)]) | (rw [if_neg (by omega)]) | (rw [if_neg (by simp; omega)]) | (split <;> first | (exfalso; omega) | rfl))
        refine takeH 5 (v := ?qav5) (fun _ => trivial) (by rfl) (by kernel_rfl) hS (.inl ⟨by kernel_rfl, fun w1 ⟨c0, c1, c2, c3, c4, d0, d1, d2, d3, d4, _⟩ => ?qay5⟩) ?_
        case qay5 => (go_simp; try first | rfl | (rw [if_pos (by omega)]) | (rw [if_neg (by omega)]) | (rw [if_neg (by simp; omega)]) | (split <;> first | (exfalso; omega) | rfl))
        refine takeH 6 (v := ?qav6) (fun _ => trivial) (by rfl) (by kernel_rfl) hS (.inl ⟨by kernel_rfl, fun w1 ⟨c0, c1, c2, c3, c4, d0, d1, d2, d3, d4, _⟩ => ?qay6⟩) ?_
        case qay6 => (go_simp; try first | rfl | (rw [if_pos (by omega)]) | (rw [if_neg (by omega)]) | (rw [if_neg (by simp; omega)]) | (split <;> first | (exfalso; omega) | rfl))
        refine takeH 7 (v := ?qav7) (fun _ => trivial) (by rfl) (by kernel_rfl) hS (.inl ⟨by kernel_rfl, fun w1 ⟨c0, c1, c2, c3, c4, d0, d1, d2, d3, d4, _⟩ => ?qay7⟩) ?_
        case qay7 => (go_simp; try first | rfl | (rw [if_pos (by omega)]) | (rw [if_neg (by omega)]) | (rw [if_neg (by simp; omega)]) | (split <;> first | (exfalso; omega) | rfl))
        simp only [Act.put, List.setIfInBounds_toArray, List.set_cons_succ, List.set_cons_zero]
        refine oneH 8 (by rfl) (by kernel_rfl) (fun K hK => ?_)
        gi_wp2_with (gi_at_call 71; refine (callsIn_wide.2 (HC.out wa HBA.out)).mono ?_; rintro e w1 ⟨rfl, b1⟩)
        replace hS := hS.below b1
        refine hK _ _ (fun _ => hS) ?_
        clear hK K
        have HBB := Lib.hid (below5 HBA.out b1)
        clear b1
        refine takeH 9 (v := ?qbv9) (fun _ => trivial) (by rfl) (by kernel_rfl) hS (.inl ⟨by kernel_rfl, fun w1 ⟨c0, c1, c2, c3, c4, d0, d1, d2, d3, d4, _⟩ => ?qby9⟩) ?_
        case qby9 => (go_simp; try first | rfl | (rw [if_pos (by omega)]) | (rw [if_neg (by omega)]) | (rw [if_neg (by simp; omega)]) | (split <;> first | (exfalso; omega) | rfl))
        simp only [Act.put, List.setIfInBounds_toArray, List.set_cons_succ, List.set_cons_zero]
        refine doneH (by kernel_rfl) ?_
        clear hS hea heb
        cases bz with
        | true =>
          gi_wp2_with fail
          refine ⟨⟨k + 1, ⟨hlt, ?_⟩, by go_num, HBB.out⟩, by simp [intOf]; omega⟩
          rw [hto.out.2, HZ.out, Bool.true_and]
        | false =>
          gi_wp2_with fail
          go_ret
          exact ⟨by rw [hto.out.2, HZ.out]; rfl, HBB.out⟩
      · have hltz : ¬ ((k : Int) < (a.length : Int)) := by omega
        have HF : Hid (Rs.sameDats (plD a) (plD b) = true) := by
          show _ = _
          rw [hto.out.2, List.drop_of_length_le (l := a) (by omega), List.drop_of_length_le (l := b) (by have := HAB.out; omega)]; rfl
        gi_wp2_with fail
        go_ret
        exact ⟨by rw [HF.out]; rfl, hb⟩
  · have h1 : ((a.length : Int) != b.length) = true := by simp; omega
    have HF : Hid (Rs.sameDats (plD a) (plD b) = false) := Rs.sameDats_len (by simpa [plD] using hab)
    refine (callsIn_wide (n := 0)).1 ?_
    refine callsIn_of_wp Try.func41 rfl trivial ?_ rfl
    simp only [Try.ntmps41, List.size_toArray, List.length_cons, List.length_nil, Nat.reduceAdd, Nat.reduceSub, Array.replicate_succ, Array.replicate_zero, List.push_toArray, List.append_toArray, List.nil_append, List.cons_append]
    gi_wp2_with fail
    go_ret
    exact ⟨by rw [HF.out]; rfl, Below.refl _ _⟩
theorem dat_of' {H : Type} {enc : TypeId × Value → H} {W : World} {base : Nat} {sp : Nat → Bool} {held : Bool} {fuel : Nat} {cs : List Value} {x : DataW H × List MemPlace} (h : DataW.trod enc Try.prog W base sp held fuel 75 cs = some x) : ∃ r : Rc.PRec, DatRd cs r W ∧ (∀ n ∈ r.nums, n < 4294967296) ∧ r.owner = [] ∧ r.ttl = 0 := by
  obtain ⟨xs, n, rfl, _, hl, hx, hf⟩ := DataW.trod_struct Try.underlying75 h
  rw [show Try.prog.cellsOf 75 = 5 by kernel_rfl] at hl
  match cs, hl with
  | [c0, c1, c2, c3, c4], _ =>
  have one : Try.prog.cellsOf 3 = 1 ∧ Try.prog.cellsOf 58 = 1 ∧ Try.prog.cellsOf 72 = 1 ∧ Try.prog.cellsOf 22 = 1 ∧ Try.prog.cellsOf 73 = 1 := ⟨by kernel_rfl, by kernel_rfl, by kernel_rfl, by kernel_rfl, by kernel_rfl⟩
  have hx' : xs.length = 5 := hx
  have f0 : DataW.trod enc Try.prog W base sp held n 3 (([c0, c1, c2, c3, c4].drop 0).take (Try.prog.cellsOf 3)) = xs[0]? := hf 0 _ rfl
  have f1 : DataW.trod enc Try.prog W base sp held n 58 (([c0, c1, c2, c3, c4].drop 1).take (Try.prog.cellsOf 58)) = xs[1]? := hf 1 _ rfl
  have f2 : DataW.trod enc Try.prog W base sp held n 72 (([c0, c1, c2, c3, c4].drop 2).take (Try.prog.cellsOf 72)) = xs[2]? := hf 2 _ rfl
  have f3 : DataW.trod enc Try.prog W base sp held n 22 (([c0, c1, c2, c3, c4].drop 3).take (Try.prog.cellsOf 22)) = xs[3]? := hf 3 _ rfl
  have f4 : DataW.trod enc Try.prog W base sp held n 73 (([c0, c1, c2, c3, c4].drop 4).take (Try.prog.cellsOf 73)) = xs[4]? := hf 4 _ rfl
  simp only [one.1, one.2.1, one.2.2.1, one.2.2.2.1, one.2.2.2.2, List.drop_zero, List.drop_succ_cons, List.take_succ_cons, List.take_zero] at f0 f1 f2 f3 f4
  rw [List.getElem?_eq_getElem (by omega)] at f0 f1 f2 f3 f4
  obtain ⟨z, e0, _, _⟩ := DataW.trod_int Try.underlying3 f0
  obtain ⟨v1, ns, e1, r1⟩ := nms_of f1
  obtain ⟨v2, ms, e2, r2, w2⟩ := nums_of f2
  obtain ⟨v3, ts, e3, r3⟩ := rd_of Try.underlying22 Try.underlying9 (by kernel_rfl) f3
  obtain ⟨v4, bs, e4, r4⟩ := raw_of f4
  cases e0; cases e1; cases e2; cases e3; cases e4
  exact ⟨⟨[], 0, z, ns, ms, ts, bs⟩, ⟨_, _, _, _, rfl, r1, r2, r3, r4⟩, w2, rfl, rfl⟩
/-- rows of data among the arguments -/
theorem open_D {H : Type} {enc : TypeId × Value → H} {W : World} {base : Nat} {sp : Nat → Bool} {held : Bool} {r : Reach} {b0 : Nat} {v : Value} {d : DataW H} {ps : List MemPlace} (hval : Value.okWide Try.prog W r b0 52 v) (hd : DataW.Trod enc Try.prog W base sp held 52 v d ps) : ∃ l, DtsRd v l W ∧ ∀ x ∈ l, x.2.owner = [] ∧ x.2.ttl = 0 ∧ ∀ n ∈ x.2.nums, n < 4294967296 := by
  obtain ⟨a0, len, cap, rfl⟩ := okWide_slice Try.underlying52 hval
  obtain ⟨fuel, hf⟩ := hd
  rcases trod_rows Try.underlying52 (show Try.prog.cellsOf 75 = 5 by kernel_rfl) hf with e | ⟨a, len', cap', e, hl, hm, hel⟩
  · simp [Value.cells] at e
    obtain ⟨rfl, rfl, rfl⟩ := e
    exact ⟨[], ⟨GRd.nil 5 W, by simp⟩, by simp⟩
  · simp [Value.cells] at e
    obtain ⟨rfl, rfl, rfl⟩ := e
    obtain ⟨l, hlen, hq⟩ := list_of (Q := fun i (x : RP) => DatRd x.1 x.2 W ∧ (x.2.owner = [] ∧ x.2.ttl = 0 ∧ ∀ n ∈ x.2.nums, n < 4294967296) ∧ ∀ j, j < 5 → W.cell? (a.add (i * 5 + j)) = x.1[j]?) len (fun i hi => by
      obtain ⟨n, cs', y, h1, h2, h3⟩ := hel i hi
      obtain ⟨r, hr, hn, ho⟩ := dat_of' h3
      exact ⟨(cs', r), hr, ⟨ho.1, ho.2, hn⟩, fun j hj => by rw [← h2 j hj, add_add']⟩)
    subst hlen
    have hall : ∀ x ∈ l, DatRd x.1 x.2 W ∧ (x.2.owner = [] ∧ x.2.ttl = 0 ∧ ∀ n ∈ x.2.nums, n < 4294967296) := fun x hx => by
      obtain ⟨i, hi, rfl⟩ := List.mem_iff_getElem.1 hx
      exact ⟨(hq i hi).1, (hq i hi).2.1⟩
    refine ⟨l, ⟨⟨some a, cap, by rw [List.length_map], by rw [List.length_map]; exact hl, hm, (fun h => by cases h), fun y hy => ?_, fun i hi c hc => ⟨a, rfl, ?_⟩⟩, fun x hx => (hall x hx).1⟩, fun x hx => (hall x hx).2⟩
    · obtain ⟨x, hx, rfl⟩ := List.mem_map.1 hy
      exact (hall x hx).1.ok
    · rw [List.length_map] at hi
      rw [(hq i hi).2.2 c hc, List.getElem_map]
end Go.Proofs.Ytneghhbclefmoaa
end
