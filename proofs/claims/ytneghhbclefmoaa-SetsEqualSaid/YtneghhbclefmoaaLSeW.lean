/- Sets of records: where a set leads to: the walk. -/
import Derived.Test.YtneghhbclefmoaaLGr
section
namespace Go.Proofs.Ytneghhbclefmoaa
open Go.RowKit Go.Shelf Go.Sort
set_option maxRecDepth 100000

theorem DatsRd.el {w : World} {o : Option Addr} {n cap : Nat} {l : List (El w)} {W : World} (h : DatsRd (.slice o n cap) l W) : ∀ W', Below W.heap.size W W' → ∀ (i : Nat) (hi : i < l.length) (c0 c1 c2 c3 c4 : Value), encD l[i] = [c0, c1, c2, c3, c4] → ∃ a, o = some a ∧
    W'.cell? (a.add (i * 5)) = some c0 ∧ W'.cell? ⟨(a.add (i * 5)).block, (a.add (i * 5)).off + 1, none⟩ = some c1 ∧ W'.cell? ⟨(a.add (i * 5)).block, (a.add (i * 5)).off + 2, none⟩ = some c2 ∧ W'.cell? ⟨(a.add (i * 5)).block, (a.add (i * 5)).off + 3, none⟩ = some c3 ∧ W'.cell? ⟨(a.add (i * 5)).block, (a.add (i * 5)).off + 4, none⟩ = some c4 := by
  intro W' hb i hi c0 c1 c2 c3 c4 hx
  obtain ⟨a, ha, h0, h1⟩ := (h.grd.below hb).at (by decide) i (by simpa using hi)
  simp only [List.getElem_map, hx] at h0 h1
  exact ⟨a, ha, h0, h1 1 (by decide) (by decide), h1 2 (by decide) (by decide), h1 3 (by decide) (by decide), h1 4 (by decide) (by decide)⟩
theorem Rs.leads_cases {t : Int} (h : Rs.leads t = true) : t = 2 ∨ t = 5 ∨ t = 12 ∨ t = 39 ∨ t = 15 := by
  simp only [Rs.leads, Bool.or_eq_true, beq_iff_eq] at h; omega
theorem Rs.leads_not {t : Int} (h : Rs.leads t = false) : (t == 2) = false ∧ (t == 5) = false ∧ (t == 12) = false ∧ (t == 39) = false ∧ (t == 15) = false := by
  simp only [Rs.leads, Bool.or_eq_false_iff, beq_eq_false_iff_ne] at h
  simp [h]
set_option maxHeartbeats 1000000 in
theorem clipNms_any (v : Value) (xs : List Value) (ns : List (List (List UInt8))) (R : Nat → Prop) (w : World) (hrow : Row R 23 1 v xs.length xs w) (hx : xs.length = ns.length) (hr : ∀ i (h : i < xs.length) (h' : i < ns.length), Rd xs[i] ns[i] w) (hn : xs.length ≤ 1000000) :
    Calls Try.prog 64 #[v] w fun e w' => ∃ v', e = .returned v' ∧ NmsRd v' ns w ∧ w' = w := by
  obtain ⟨o, cap, rfl, h1, h2, h3, h4⟩ := Row.sl hrow
  have h2' := h2
  unfold maxLen at h2
  have n1 : (xs.length : Int) ≤ 1000000 := by omega
  have HO := Lib.hid (show o = none → xs.length = 0 from fun h => by have := h3 h; omega)
  have H4 := Lib.hid h4
  have H2 := Lib.hid h2'
  have HX := Lib.hid hx
  have HR := Lib.hid hr
  clear h3 h4 hrow h2' hx hr
  go_enter Try.func64, Try.ntmps64
  go_wp2_with fail
  go_ret
  exact ⟨.slice o xs.length xs.length, rfl, ⟨xs, HX.out, ⟨o, xs.length, rfl, Nat.le_refl _, by have := H2.out; omega, HO.out, H4.out⟩, HR.out⟩, rfl⟩
set_option maxHeartbeats 4000000 in
theorem targets_any {w w0 : World} (po : Option Addr) (no qo : Nat) (t : Int) (tt : Nat) (od : Option Addr) (n cd : Nat) (k : List (El w)) (hb0 : Below w.heap.size w w0) (hd : DatsRd (.slice od n cd) k w0) (nk : k.length ≤ 1000) :
    Calls Try.prog 31 #[.agg #[.slice po no qo, .int .i64 t, .int .u32 (tt : Int), .slice od n cd]] w0 fun e w' => ∃ v, e = .returned v ∧ NmsRd v (Rs.targets t (plE k)) w' ∧ Below w0.heap.size w0 w' := by
  have hnk : n = k.length := by obtain ⟨_, _, e, _⟩ := hd; cases e; rfl
  have HD := Lib.hid hd.el
  have HB0 := Lib.hid hb0
  have HNK := Lib.hid hnk
  have lo : (n : Int) ≤ 1000 := by omega
  obtain ⟨W1, hW1⟩ : ∃ W1, w0.alloc (.cells #[.slice po no qo, .int .i64 t, .int .u32 (tt : Int), .slice od n cd] 54) = W1 := ⟨_, rfl⟩
  have HB1 : Hid (Below w0.heap.size w0 W1) := by show Below _ _ _; rw [← hW1]; exact (Below.refl _ _).alloc (Nat.le_refl _) _
  have HW1 := Lib.hid hW1
  clear hd hb0 hnk nk hW1
  rcases hl : Rs.leads t with _ | _
  · obtain ⟨t1, t2, t3, t4, t5⟩ := Rs.leads_not hl
    have HL := Lib.hid hl
    have HT : Hid (Rs.targets t (plE k) = []) := by show _ = _; unfold Rs.targets; rw [if_neg (by rw [HL.out]; exact Bool.false_ne_true)]
    clear hl
    refine (callsIn_wide (n := 0)).1 ?_
    refine callsIn_of_wp Try.func31 rfl trivial ?_ rfl
    simp only [Try.ntmps31, List.size_toArray, List.length_cons, List.length_nil, Nat.reduceAdd, Nat.reduceSub, Array.replicate_succ, Array.replicate_zero, List.push_toArray, List.append_toArray, List.nil_append, List.cons_append]
    gi_wp2_with fail
    rw [HW1.out]
    refine (callsIn_wide.2 (clipNms_any (.slice none 0 0) [] [] (fun _ => True) W1 (Row.nil _ _ _ _) rfl (fun i h => by simp at h) (by simp))).mono ?_
    rintro e w1 ⟨v1, rfl, r1, rfl⟩
    have HR1 := Lib.hid r1
    clear r1
    gi_wp2_with fail
    go_ret
    exact ⟨_, rfl, by rw [HT.out]; exact HR1.out, HB1.out⟩
  · have hq : Rs.targets t (plE k) = (plE k).filterMap fun r => r.names.head? := by unfold Rs.targets; rw [if_pos hl]
    rw [hq]
    have ht := Rs.leads_cases hl
    clear hl hq
    rcases ht with rfl | rfl | rfl | rfl | rfl
    all_goals
      refine (callsIn_wide (n := 0)).1 ?_
      refine callsIn_of_wp Try.func31 rfl trivial ?_ rfl
      simp only [Try.ntmps31, List.size_toArray, List.length_cons, List.length_nil, Nat.reduceAdd, Nat.reduceSub, Array.replicate_succ, Array.replicate_zero, List.push_toArray, List.append_toArray, List.nil_append, List.cons_append]
      gi_wp2_with fail
      rw [HW1.out]
      clear HW1
      gi_loopw [3, 17] (fun v3 v17 W => ∃ (i : Nat) (ys : List Value) (ns : List (List (List UInt8))), i ≤ n ∧ v17 = .int .i64 i ∧ Hid (ns = (plE (k.take i)).filterMap (fun r => r.names.head?) ∧ ys.length = ns.length ∧ ys.length ≤ i ∧ ∀ j (h : j < ys.length) (h' : j < ns.length), Rd ys[j] ns[j] w) ∧ Below w0.heap.size w0 W ∧ Row (fun g => w0.heap.size ≤ g) 23 1 v3 ys.length ys W) (fun _ v17 _ => n - (intOf v17).toNat)
      case atStart => exact ⟨0, [], [], Nat.zero_le _, rfl, ⟨rfl, rfl, Nat.le_refl _, fun j h => by simp at h⟩, HB1.out, Row.nil _ _ _ _⟩
      case round =>
        obtain ⟨i, ys, ns, hi, rfl, HI, hb, hrow⟩ := hrel
        by_cases hlt : i < n
        · have hlz : (i : Int) < (n : Int) := by omega
          have hik : i < k.length := by rw [← HNK.out]; exact hlt
          obtain ⟨x, hx⟩ : ∃ x, k[i] = x := ⟨_, rfl⟩
          obtain ⟨us, p1, q1, p2, n2, q2, p3, n3, q3, p4, n4, q4, ex, hu, hul, hur, _⟩ := x.data
          obtain ⟨ga, rfl, e0, e1, e2, e3, e4⟩ := HD.out _ hb i hik _ _ _ _ _ (by rw [hx]; exact ex)
          have htk : k.take (i + 1) = k.take i ++ [x] := by rw [List.take_succ_eq_append_getElem hik, hx]
          have HTK := Lib.hid htk
          have HUR := Lib.hid hur
          have HB := Lib.hid hb
          have HU := Lib.hid hu
          have HR := Lib.hid hrow
          have HUL := Lib.hid hul
          obtain ⟨m, hm⟩ : ∃ m, us.length = m := ⟨_, rfl⟩
          rw [hm] at e1
          have HM := Lib.hid hm
          clear hx ex htk hur hb hu hrow hul hm
          rcases Nat.eq_zero_or_pos m with hm0 | hm0
          · subst hm0
            have hnil : x.1.2.names = [] := List.length_eq_zero_iff.1 (by rw [← HUL.out]; exact HM.out)
            have HNIL := Lib.hid hnil
            clear hnil
            gi_wp2_with fail
            refine ⟨⟨i + 1, ys, ns, hlt, by go_num, ?_, HB.out.alloc HB.out.size _, HR.out.alloc _⟩, by simp [intOf]; omega⟩
            obtain ⟨h1, h2, h3, h4⟩ := HI.out
            refine ⟨?_, h2, by omega, h4⟩
            rw [HTK.out, plE_snoc, List.filterMap_append, ← h1]
            simp [HNIL.out]
          · have hmz : (0 : Int) < (m : Int) := by omega
            have hp2 : decide (0 < m) = true := decide_eq_true hm0
            have hu0 : 0 < us.length := by rw [HM.out]; exact hm0
            have hn0 : 0 < x.1.2.names.length := by rw [← HUL.out]; exact hu0
            obtain ⟨a1, rfl, c1⟩ := HU.out.cells wr (below5 HB0.out HB.out) 0 hu0
            rw [add_zero'] at c1
            have hrd := HUR.out 0 hu0 hn0
            obtain ⟨y, hy⟩ : ∃ y, us[0] = y := ⟨_, rfl⟩
            rw [hy] at c1 hrd
            obtain ⟨oy, cy, rfl, _, _⟩ := hrd.form
            obtain ⟨ly, hly⟩ : ∃ ly, x.1.2.names[0].length = ly := ⟨_, rfl⟩
            rw [hly] at c1 hrd
            have hlt1 := cell_lt c1
            have c1' : ∀ o, (wr.alloc o).cell? a1 = some (.slice oy ly cy) := fun o => (((Below.refl wr.heap.size wr).alloc (Nat.le_refl _) o).cell hlt1).trans c1
            have HRD := Lib.hid hrd
            clear hrd hy hly c1 hlt1 hu0
            obtain ⟨Wb, hWb⟩ : ∃ Wb, (wr.alloc (.cells #[.int .i64 x.1.2.type, .slice (some a1) m q1, .slice p2 n2 q2, .slice p3 n3 q3, .slice p4 n4 q4] 75)).alloc (.cells #[.slice oy ly cy] 23) = Wb := ⟨_, rfl⟩
            have hbb : Below w0.heap.size w0 Wb := by rw [← hWb]; exact (HB.out.alloc HB.out.size _).alloc (by have := HB.out.size; simp; omega) _
            have hrb : Row (fun g => w0.heap.size ≤ g) 23 1 u3 ys.length ys Wb := by rw [← hWb]; exact (HR.out.alloc _).alloc _
            have hnb : GRd 1 (.slice (some ⟨wr.heap.size + 1, 0, none⟩) 1 1) [[.slice oy ly cy]] Wb := by
              have := GRd.new [.slice oy ly cy] rfl (by simp [Value.oneCell']) (wr.alloc (.cells #[.int .i64 x.1.2.type, .slice (some a1) m q1, .slice p2 n2 q2, .slice p3 n3 q3, .slice p4 n4 q4] 75)) 23
              rw [World.size_alloc] at this
              rw [← hWb]; exact this
            have HBB := Lib.hid hbb
            have HRB := Lib.hid hrb
            have HNB := Lib.hid hnb
            have HWB := Lib.hid hWb
            have hyi : ys.length ≤ 1000 := by have := HI.out; omega
            clear hbb hrb hnb hWb
            gi_wp2_with (gi_at_builtin; rw [HWB.out]; refine append_g (fun g => w0.heap.size ≤ g) 23 _ 1 24 info_name rfl (by decide) rfl _ _ _ Try.underlying58 rfl _ ys.length (ys.map fun y => [y]) (by rfl) (by rw [flatten_one]; exact HRB.out) _ [[.slice oy ly cy]] (by rfl) HNB.out (by simp; omega) (by omega) (by have := HBB.out.size; exact this) ?_; intro v10 w10 hrow10 hgr10)
            have hb10 := HBB.out.grown hgr10 HBB.out.size (fun g hg => HRB.out.2 g hg)
            rw [List.flatten_append, flatten_one] at hrow10
            gi_wp2_with fail
            refine ⟨⟨i + 1, ys ++ [.slice oy ly cy], ns ++ [x.1.2.names[0]], hlt, by go_num, ?_, hb10, by rw [List.length_append]; exact hrow10⟩, by simp [intOf]; omega⟩
            obtain ⟨h1, h2, h3, h4⟩ := HI.out
            refine ⟨?_, by simp [h2], by simp; omega, fun j hj hj' => ?_⟩
            · rw [HTK.out, plE_snoc, List.filterMap_append, ← h1]
              rw [List.filterMap_cons_some (b := x.1.2.names[0]) (by rw [List.head?_eq_getElem?, List.getElem?_eq_getElem hn0])]; rfl
            · by_cases hjl : j < ys.length
              · rw [List.getElem_append_left hjl, List.getElem_append_left (by omega)]; exact h4 j hjl (by omega)
              · have : j = ys.length := by simp at hj; omega
                subst this
                rw [List.getElem_append_right (Nat.le_refl _), List.getElem_append_right (by omega)]
                simpa using HRD.out
        · have hlz : ¬ ((i : Int) < (n : Int)) := by omega
          obtain rfl : i = n := by omega
          obtain ⟨h1, h2, h3, h4⟩ := HI.out
          rw [List.take_of_length_le (by rw [← HNK.out]; exact Nat.le_refl _)] at h1
          have HCL := Lib.hid (clipNms_any u3 ys ns _ wr hrow h2 (fun j h h' => (h4 j h h').below (below5 HB0.out hb)) (by omega))
          have H1 := Lib.hid h1
          have HB := Lib.hid hb
          clear h1 h2 h3 h4 hrow hb
          gi_wp2_with fail
          refine (callsIn_wide.2 HCL.out).mono ?_
          rintro e w1 ⟨v1, rfl, r1, rfl⟩
          have HR1 := Lib.hid r1
          clear r1
          gi_wp2_with fail
          go_ret
          exact ⟨_, rfl, by rw [← H1.out]; exact HR1.out, HB.out⟩
end Go.Proofs.Ytneghhbclefmoaa
end
section
namespace Go.Proofs.Ytneghhbclefmoaa
open Go.RowKit Go.Shelf Go.Sort
set_option maxRecDepth 100000

namespace Rs
open Rc
def sameDats : List PRec → List PRec → Bool
  | [], [] => true
  | x :: a, y :: b => (cmpD x y == 0) && sameDats a b
  | _, _ => false
theorem sameDats_len : ∀ {a b : List PRec}, a.length ≠ b.length → sameDats a b = false
  | [], [], h => absurd rfl h
  | [], _ :: _, _ => rfl
  | _ :: _, [], _ => rfl
  | x :: a, y :: b, h => by rw [sameDats, sameDats_len (a := a) (b := b) (by simpa using h), Bool.and_false]
end Rs
set_option maxHeartbeats 1000000 in
theorem rdSame_any (va vb : List Value) (a b : Rc.PRec) (w : World) (ha : DatRd va a w) (hb : DatRd vb b w) (na : RB a) (nb : RB b) :
    Calls Try.prog 70 #[.agg va.toArray, .agg vb.toArray] w (Gives (.bool (Rc.cmpD a b == 0)) w) := by
  have HA := Lib.hid ha
  have HB := Lib.hid hb
  obtain ⟨an, am, at', ar, rfl, _⟩ := ha
  obtain ⟨bn, bm, bt, br, rfl, _⟩ := hb
  have NA := Lib.hid na
  have NB' := Lib.hid nb
  clear na nb
  have hz : ∀ z : Int, (decide (z = 0)) = (z == 0) := fun z => by by_cases h : z = 0 <;> simp [h]
  go_enter Try.func70, Try.ntmps70
  go_wp2_with fail
  refine (rdCompare_any [.int .i64 a.type, an, am, at', ar] [.int .i64 b.type, bn, bm, bt, br] a b _ (HA.out.below (((Below.refl _ _).alloc (Nat.le_refl _) _).alloc (by simp) _)) (HB.out.below (((Below.refl _ _).alloc (Nat.le_refl _) _).alloc (by simp) _)) NA.out NB'.out).mono ?_
  rintro e w1 ⟨rfl, b1⟩
  have hb1 := (((Below.refl w.heap.size w).alloc (Nat.le_refl _) _).alloc (by simp) _).trans (b1.mono (by simp; omega))
  go_wp2_with fail
  go_ret
  exact ⟨by first | rfl | simp [hz], hb1⟩
set_option maxHeartbeats 1000000 in
theorem equalDat_any {w w0 : World} (v u : Value) (a b : List (El w)) (hb0 : Below w.heap.size w w0) (hv : DatsRd v a w0) (hu : DatsRd u b w0) (na : a.length ≤ 1000) (_nb : b.length ≤ 1000) :
    Calls Try.prog 69 #[v, u, .func (.func 70) #[] #[]] w0 (Gives (.bool (Rs.sameDats (plE a) (plE b))) w0) := by
  obtain ⟨o, cap, rfl, _, _⟩ := hv.form
  obtain ⟨o', cap', rfl, _, _⟩ := hu.form
  have HB0 := Lib.hid hb0
  have HV := Lib.hid hv.el
  have HU := Lib.hid hu.el
  clear hv hu hb0
  by_cases hab : a.length = b.length
  · have h1 : ((a.length : Int) != b.length) = false := by simp [hab]
    have na' : (a.length : Int) ≤ 1000 := by omega
    have HAB := Lib.hid hab
    clear hab na _nb
    go_enter Try.func69, Try.ntmps69
    go_wp2
    go_loopw [17] (fun i wr => ∃ k : Nat, Hid (k ≤ a.length ∧ Rs.sameDats (plE a) (plE b) = Rs.sameDats (plE (a.drop k)) (plE (b.drop k))) ∧ i = .int .i64 k ∧ Below w0.heap.size w0 wr) (fun i _ => a.length - (intOf i).toNat)
    case atStart => exact ⟨0, ⟨by omega, rfl⟩, rfl, Below.refl _ _⟩
    case round =>
      obtain ⟨k, hto, rfl, hb⟩ := hrel
      by_cases hlt : k < a.length
      · have hltz : (k : Int) < (a.length : Int) := by omega
        have hltz2 : (k : Int) < (b.length : Int) := by have := HAB.out; omega
        obtain ⟨x, hx⟩ : ∃ x, a[k] = x := ⟨_, rfl⟩
        obtain ⟨y, hy⟩ : ∃ y, b[k]'(by have := HAB.out; omega) = y := ⟨_, rfl⟩
        obtain ⟨us, p1, q1, p2, n2, q2, p3, n3, q3, p4, n4, q4, ex, _, _, _, dx⟩ := x.data
        obtain ⟨vs, r1, t1, r2, k2, t2, r3, k3, t3, r4, k4, t4, ey, _, _, _, dy⟩ := y.data
        obtain ⟨ga, rfl, e0, e1, e2, e3, e4⟩ := HV.out _ hb k hlt _ _ _ _ _ (by rw [hx]; exact ex)
        obtain ⟨gb, rfl, f0, f1, f2, f3, f4⟩ := HU.out _ hb k (by have := HAB.out; omega) _ _ _ _ _ (by rw [hy]; exact ey)
        obtain ⟨n1, hn1⟩ : ∃ n1, us.length = n1 := ⟨_, rfl⟩
        obtain ⟨k1, hk1⟩ : ∃ k1, vs.length = k1 := ⟨_, rfl⟩
        rw [hn1] at ex e1
        rw [hk1] at ey f1
        have F : ∀ ob : Obj, (wr.alloc ob).cell? (gb.add (k * 5)) = some (.int .i64 y.1.2.type) ∧ (wr.alloc ob).cell? ⟨(gb.add (k * 5)).block, (gb.add (k * 5)).off + 1, none⟩ = some (.slice r1 k1 t1) ∧ (wr.alloc ob).cell? ⟨(gb.add (k * 5)).block, (gb.add (k * 5)).off + 2, none⟩ = some (.slice r2 k2 t2) ∧ (wr.alloc ob).cell? ⟨(gb.add (k * 5)).block, (gb.add (k * 5)).off + 3, none⟩ = some (.slice r3 k3 t3) ∧ (wr.alloc ob).cell? ⟨(gb.add (k * 5)).block, (gb.add (k * 5)).off + 4, none⟩ = some (.slice r4 k4 t4) := fun ob => by
          obtain ⟨a', ha', h⟩ := HU.out (wr.alloc ob) (hb.alloc hb.size ob) k (by have := HAB.out; omega) _ _ _ _ _ (by rw [hy]; exact ey)
          cases ha'; exact h
        have F0 := fun ob => (F ob).1
        have F1 := fun ob => (F ob).2.1
        have F2 := fun ob => (F ob).2.2.1
        have F3 := fun ob => (F ob).2.2.2.1
        have F4 := fun ob => (F ob).2.2.2.2
        have HX := Lib.hid ex
        have HY := Lib.hid ey
        have HZ : Hid (Rs.sameDats (plE (a.drop k)) (plE (b.drop k)) = ((Rc.cmpD x.1.2 y.1.2 == 0) && Rs.sameDats (plE (a.drop (k + 1))) (plE (b.drop (k + 1))))) := by
          show _ = _
          rw [List.drop_eq_getElem_cons hlt, List.drop_eq_getElem_cons (show k < b.length by have := HAB.out; omega), hx, hy]; rfl
        clear hx hy HV HU F f0 f1 f2 f3 f4 hn1 hk1
        have HRX : Hid (DatRd [.int .i64 x.1.2.type, .slice p1 n1 q1, .slice p2 n2 q2, .slice p3 n3 q3, .slice p4 n4 q4] x.1.2 w) := by show DatRd _ _ _; rw [← ex]; exact dx
        have HRY : Hid (DatRd [.int .i64 y.1.2.type, .slice r1 k1 t1, .slice r2 k2 t2, .slice r3 k3 t3, .slice r4 k4 t4] y.1.2 w) := by show DatRd _ _ _; rw [← ey]; exact dy
        clear dx dy ex ey
        have HBW : Hid (∀ o1 o2, Below w.heap.size w ((wr.alloc o1).alloc o2)) := fun o1 o2 => below5 HB0.out ((hb.alloc hb.size _).alloc (by have := hb.size; simp; omega) _)
        have HBV : Hid (∀ o1 o2, Below w0.heap.size w0 ((wr.alloc o1).alloc o2)) := fun o1 o2 => (hb.alloc hb.size _).alloc (by have := hb.size; simp; omega) _
        obtain ⟨bz, hz⟩ : ∃ bz, (Rc.cmpD x.1.2 y.1.2 == 0) = bz := ⟨_, rfl⟩
        have HSZ := Lib.hid hz
        clear hz
        cases bz with
        | true =>
          go_wp2_with fail
          refine (rdSame_any [.int .i64 x.1.2.type, .slice p1 n1 q1, .slice p2 n2 q2, .slice p3 n3 q3, .slice p4 n4 q4] [.int .i64 y.1.2.type, .slice r1 k1 t1, .slice r2 k2 t2, .slice r3 k3 t3, .slice r4 k4 t4] x.1.2 y.1.2 _ (HRX.out.below (HBW.out _ _)) (HRY.out.below (HBW.out _ _)) x.2.2 y.2.2).mono ?_
          rintro e w3 ⟨rfl, b3⟩
          rw [HSZ.out]
          have hb3 := Lib.hid (below5 (HBV.out _ _) b3)
          clear b3
          go_wp2_with fail
          refine ⟨⟨k + 1, ⟨hlt, ?_⟩, by go_num, hb3.out⟩, by simp [intOf]; omega⟩
          rw [hto.out.2, HZ.out, HSZ.out, Bool.true_and]
        | false =>
          go_wp2_with fail
          refine (rdSame_any [.int .i64 x.1.2.type, .slice p1 n1 q1, .slice p2 n2 q2, .slice p3 n3 q3, .slice p4 n4 q4] [.int .i64 y.1.2.type, .slice r1 k1 t1, .slice r2 k2 t2, .slice r3 k3 t3, .slice r4 k4 t4] x.1.2 y.1.2 _ (HRX.out.below (HBW.out _ _)) (HRY.out.below (HBW.out _ _)) x.2.2 y.2.2).mono ?_
          rintro e w3 ⟨rfl, b3⟩
          rw [HSZ.out]
          have hb3 := Lib.hid (below5 (HBV.out _ _) b3)
          clear b3
          go_wp2_with fail
          go_ret
          exact ⟨by rw [hto.out.2, HZ.out, HSZ.out]; rfl, hb3.out⟩
      · have hltz : ¬ ((k : Int) < (a.length : Int)) := by omega
        have HF : Hid (Rs.sameDats (plE a) (plE b) = true) := by
          show _ = _
          rw [hto.out.2, List.drop_of_length_le (l := a) (by omega), List.drop_of_length_le (l := b) (by have := HAB.out; omega)]; rfl
        go_wp2
        go_ret
        exact ⟨by rw [HF.out]; rfl, hb⟩
  · have h1 : ((a.length : Int) != b.length) = true := by simp; omega
    have HF : Hid (Rs.sameDats (plE a) (plE b) = false) := Rs.sameDats_len (by simpa [plE] using hab)
    go_enter Try.func69, Try.ntmps69
    go_wp2
    go_ret
    exact ⟨by rw [HF.out]; rfl, Below.refl _ _⟩
set_option maxHeartbeats 1000000 in
theorem setEqual_any {w w0 : World} (po : Option Addr) (no qo : Nat) (t : Int) (tt : Nat) (pp : Option Addr) (np qp : Nat) (s : Int) (ss : Nat) (v u : Value) (a b : List (El w)) (hb0 : Below w.heap.size w w0) (hv : DatsRd v a w0) (hu : DatsRd u b w0) (na : a.length ≤ 1000) (nb : b.length ≤ 1000) :
    Calls Try.prog 40 #[.agg #[.slice po no qo, .int .i64 t, .int .u32 (tt : Int), v], .agg #[.slice pp np qp, .int .i64 s, .int .u32 (ss : Int), u]] w0 (Gives (.bool (Rs.sameDats (plE a) (plE b))) w0) := by
  obtain ⟨o, cap, rfl, _, _⟩ := hv.form
  obtain ⟨o', cap', rfl, _, _⟩ := hu.form
  have HB2 : Hid (∀ o1 o2, Below w0.heap.size w0 ((w0.alloc o1).alloc o2)) := fun o1 o2 => ((Below.refl _ _).alloc (Nat.le_refl _) _).alloc (by simp) _
  have HC := Lib.hid (fun o1 o2 => equalDat_any (w0 := (w0.alloc o1).alloc o2) _ _ a b (below5 hb0 (HB2.out o1 o2)) (hv.below (HB2.out o1 o2)) (hu.below (HB2.out o1 o2)) na nb)
  clear hv hu hb0
  go_enter Try.func40, Try.ntmps40
  go_wp2_with fail
  refine (HC.out _ _).mono ?_
  rintro e w1 ⟨rfl, b1⟩
  have hb1 := below5 (HB2.out _ _) b1
  go_wp2_with fail
  go_ret
  exact ⟨rfl, hb1⟩
end Go.Proofs.Ytneghhbclefmoaa
end
