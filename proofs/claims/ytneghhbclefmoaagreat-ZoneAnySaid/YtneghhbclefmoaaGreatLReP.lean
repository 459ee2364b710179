/- Records: rows in order (plain). -/
import Derived.Test.YtneghhbclefmoaaGreatJRcL
import Derived.Test.YtneghhbclefmoaaGreatJZnL
import Derived.Test.YtneghhbclefmoaaGreatJZnE
import Derived.Test.YtneghhbclefmoaaGreatLSgG
import Derived.Test.YtneghhbclefmoaaGreatJZnI
section
namespace Go.Proofs.YtneghhbclefmoaaGreat
open Go.RowKit Go.Shelf Go.Sort
set_option maxRecDepth 100000

namespace Rc
theorem cmp_flip {a b : PRec} (h : cmp a b = 0) : cmp b a = 0 := by have := cmp_cm.anti a b; omega
end Rc
end Go.Proofs.YtneghhbclefmoaaGreat
end
section
namespace Go.Proofs.YtneghhbclefmoaaGreat
open Go.RowKit Go.Shelf Go.Sort
set_option maxRecDepth 100000

theorem Nm.same_under {n o : List (List UInt8)} (h : Nm.under n o = true) : Nm.same n o = decide (n.length = o.length) := by
  have hl := Nm.under_le' h
  by_cases he : n.length = o.length
  · rw [decide_eq_true he]
    unfold Nm.under at h
    rw [Bool.and_eq_true] at h
    have h2 := h.2
    rw [he, Nat.sub_self, List.drop_zero] at h2
    exact h2
  · rw [decide_eq_false he]
    cases hs : Nm.same n o with
    | false => rfl
    | true => exact absurd (Nm.same_len' hs) he
namespace Zn
open Rc
theorem exi_ref (o : Nam) (L : List PRec) (n : Nam) (h : Nm.under n o = true) : exi o L n = (Nm.same n o || L.any fun r => Nm.under r.owner n) := by
  unfold exi
  rw [h, Bool.true_and, Nm.same_under h]
theorem exi_out (o : Nam) (L : List PRec) (n : Nam) (h : Nm.under n o = false) : exi o L n = false := by
  unfold exi
  rw [h, Bool.false_and]
theorem enclF_all {o : Nam} {L : List PRec} {n : Nam} : ∀ (k out : Nat), (∀ j, j < k → exi o L (n.drop j) = true) → enclF o L n k out = if k = 0 then out else 0
  | 0, _, _ => rfl
  | k + 1, out, h => by
    rw [enclF, if_pos (h k (by omega)), enclF_all k k (fun j hj => h j (by omega))]
    by_cases hk : k = 0
    · subst hk; rfl
    · rw [if_neg hk, if_neg (by omega)]
theorem encl_here {o : Nam} {L : List PRec} {n : Nam} (h : exi o L n = true) : encl o L n = n := by
  have hu : Nm.under n o = true := by
    cases hu : Nm.under n o with
    | true => rfl
    | false => rw [exi_out o L n hu] at h; cases h
  unfold encl
  rw [if_pos hu, enclF_all _ _ (fun j hj => exi_drop (by omega) h), if_neg (by omega), List.drop_zero]
theorem encl_tail {o : Nam} {L : List PRec} {n : Nam} (x : List UInt8) (hu : Nm.under n o = true) (hn : exi o L (x :: n) = false) : encl o L (x :: n) = encl o L n := by
  have hl := Nm.under_le' hu
  unfold encl
  rw [if_pos hu, if_pos (under_up x hu), List.length_cons, show n.length + 1 - o.length + 1 = (n.length - o.length + 1) + 1 by omega, enclF_up x hn, List.drop_succ_cons]
/-- the first that is there, from the name upward -/
theorem encl_first {o : Nam} {L : List PRec} : ∀ {n : Nam} {i : Nat}, i ≤ n.length → (∀ j, j < i → exi o L (n.drop j) = false) → exi o L (n.drop i) = true → encl o L n = n.drop i
  | n, 0, _, _, h1 => encl_here h1
  | [], i + 1, h, _, _ => by simp at h
  | x :: n, i + 1, h, h0, h1 => by
    have h2 : exi o L (n.drop i) = true := h1
    have hu : Nm.under n o = true := by
      cases hu : Nm.under (n.drop i) o with
      | true => exact Nm.under_trans (Nm.under_tail n i) hu
      | false => rw [exi_out o L _ hu] at h2; cases h2
    rw [encl_tail x hu (h0 0 (by omega)), encl_first (n := n) (i := i) (by simpa using h) (fun j hj => h0 (j + 1) (by omega)) h2]; rfl
theorem encl_no {o : Nam} {L : List PRec} {n : Nam} (h0 : ∀ j, j ≤ n.length → exi o L (n.drop j) = false) : encl o L n = [] := by
  unfold encl
  split
  · rename_i hu
    have := h0 (n.length - o.length) (by omega)
    rw [exi_top hu] at this; cases this
  · rfl
/-- from below the origin down -/
theorem cutAt_ref {o : Nam} {L : List PRec} {n : Nam} (h : Nm.under n o = true) : cutAt o L n = cutF o.length L n (n.length - o.length) := by
  have hl := Nm.under_le' h
  unfold cutAt
  rw [if_pos h, cutF_short (by simp; omega)]
theorem cutF_go {ol : Nat} {L : List PRec} {n : Nam} {k : Nat} (_h1 : k + ol < n.length) (h2 : has L (n.drop k) 2 = false) : cutF ol L n (k + 1) = cutF ol L n k := by
  rw [cutF, if_neg]
  rw [h2, Bool.and_false]; exact Bool.false_ne_true
end Zn
end Go.Proofs.YtneghhbclefmoaaGreat
end
section
namespace Go.Proofs.YtneghhbclefmoaaGreat
open Go.RowKit Go.Shelf Go.Sort
set_option maxRecDepth 100000

theorem any_no {α : Type} {p : α → Bool} {l : List α} (h : ∀ j (hj : j < l.length), p l[j] = false) : l.any p = false := by
  rw [List.any_eq_false]
  intro x hx
  obtain ⟨j, hj, rfl⟩ := List.mem_iff_getElem.1 hx
  rw [h j hj]; exact Bool.false_ne_true
theorem any_at {α : Type} {p : α → Bool} {l : List α} (j : Nat) (hj : j < l.length) (h : p l[j] = true) : l.any p = true := List.any_eq_true.2 ⟨_, List.getElem_mem hj, h⟩
/-- a zone's two cells -/
theorem zBox {w0 W1 : World} {zo vr : Value} (h : w0.alloc (.cells #[zo, vr] 33) = W1) : Below w0.heap.size w0 W1 ∧ Blk w0.heap.size #[zo, vr] 33 W1 := by
  subst h
  exact ⟨(Below.refl _ _).alloc (Nat.le_refl _) _, Blk.new w0 _ _⟩
set_option maxHeartbeats 1000000 in
theorem rHas_any {w w0 : World} (po : Option Addr) (no qo : Nat) (vr vn : Value) (l : List (El w)) (n : List (List UInt8)) (t : Int) (hb0 : Below w.heap.size w w0) (hv : RecsRd vr (l.map (·.1)) w0) (na : l.length ≤ 1000) (hn : Rd vn n w0) (nn : NB n) :
    Calls Tryz.prog 57 #[.agg #[.slice po no qo, vr], vn, .int .i64 t] w0 (Gives (.bool (Zn.has (plE l) n t)) w0) := by
  obtain ⟨on, cn, rfl, _, _⟩ := hn.form
  obtain ⟨ov, cv, rfl⟩ : ∃ o cap, vr = .slice o l.length cap := by obtain ⟨_, o, cap, h, _⟩ := hv; exact ⟨o, cap, by rw [h, List.length_map]⟩
  obtain ⟨W1, hW1⟩ : ∃ W1, w0.alloc (.cells #[.slice po no qo, .slice ov l.length cv] 33) = W1 := ⟨_, rfl⟩
  obtain ⟨hb1, hbk⟩ := zBox hW1
  have HW1 := Lib.hid hW1
  have HB1 := Lib.hid hb1
  have HBK := Lib.hid hbk
  have HV := Lib.hid hv.el
  have HB0 := Lib.hid hb0
  have HN := Lib.hid hn
  have NN := Lib.hid nn
  have lz : (l.length : Int) ≤ 1000 := by omega
  clear hv hb0 hn nn hW1 hb1 hbk
  refine (callsIn_wide (n := 0)).1 ?_
  refine callsIn_of_wp Tryz.func57 rfl trivial ?_ rfl
  simp only [Tryz.ntmps57, List.size_toArray, List.length_cons, List.length_nil, Nat.reduceAdd, Nat.reduceSub, Array.replicate_succ, Array.replicate_zero, List.push_toArray, List.append_toArray, List.nil_append, List.cons_append]
  gi_wp2_with fail
  rw [HW1.out]
  clear HW1
  gi_loopw [7] (fun vi W => ∃ i : Nat, i ≤ l.length ∧ vi = .int .i64 i ∧ Hid (∀ j (hj : j < (plE l).length), j < i → (((plE l)[j].type == t) && Nm.same (plE l)[j].owner n) = false) ∧ Below W1.heap.size W1 W) (fun vi _ => l.length - (intOf vi).toNat)
  case atStart => exact ⟨0, Nat.zero_le _, rfl, fun j _ h => by omega, Below.refl _ _⟩
  case round =>
    obtain ⟨i, hi, rfl, HF, hb⟩ := hrel
    have z1 : wr.cell? ⟨w0.heap.size, 1, none⟩ = some (.slice ov l.length cv) := (HBK.out.below hb).cell 1
    by_cases hlt : i < l.length
    · have hiz : (i : Int) < (l.length : Int) := by omega
      obtain ⟨x, hx⟩ : ∃ x, l[i] = x := ⟨_, rfl⟩
      obtain ⟨p0, n0, q0, p1, n1, q1, p2, n2, q2, p3, n3, q3, p4, n4, q4, ex⟩ := x.cells
      obtain ⟨ga, rfl, e0, e1, e2, e3, e4, e5, e6⟩ := HV.out _ (below5 HB1.out hb) i hlt _ _ _ _ _ _ _ (by rw [hx]; exact ex)
      obtain ⟨ea, hea⟩ : ∃ q, ga.add (i * 7) = q := ⟨_, rfl⟩
      rw [hea] at e0 e1 e2 e3 e4 e5 e6
      have hro : Rd (.slice p0 n0 q0) x.1.2.owner w := by
        have h := x.2.1
        rw [show x.1.1 = _ from ex] at h
        obtain ⟨vo, ds, h1, h2, _⟩ := h
        cases h1; exact h2
      have hpx : ∀ h : i < (plE l).length, (plE l)[i] = x.1.2 := fun h => by rw [plE_get, hx]
      have HSM := Lib.hid (refSame_any _ _ x.1.2.owner n wr (hro.below (below5 HB0.out (below5 HB1.out hb))) (HN.out.below (below5 HB1.out hb)) x.2.2.owner NN.out)
      obtain ⟨z, hz⟩ : ∃ z, Nm.same x.1.2.owner n = z := ⟨_, rfl⟩
      obtain ⟨b, hbt⟩ : ∃ b, (x.1.2.type == t) = b := ⟨_, rfl⟩
      rw [hz] at HSM
      have HPX := Lib.hid hpx
      have HZ := Lib.hid hz
      have HBT := Lib.hid hbt
      have HB := Lib.hid hb
      have HNX : Hid ((b && z) = false → ∀ j (hj : j < (plE l).length), j < i + 1 → (((plE l)[j].type == t) && Nm.same (plE l)[j].owner n) = false) := fun hbz j hj hji => by
        by_cases hjl : j < i
        · exact HF.out j hj hjl
        · obtain rfl : j = i := by omega
          rw [HPX.out hj, HZ.out, HBT.out]; exact hbz
      clear hx ex hro hpx hz hb
      cases b with
      | false =>
        gi_wp2_with fail
        exact ⟨⟨i + 1, hlt, by go_num, HNX.out rfl, HB.out⟩, by simp [intOf] <;> omega⟩
      | true =>
        gi_wp2_with fail
        refine (callsIn_wide.2 HSM.out).mono ?_
        rintro e9 wd ⟨rfl, b9⟩
        have HBD := Lib.hid (below5 HB.out b9)
        clear b9 e0 e1 e2 e3 e4 e5 e6 z1 HSM
        cases z with
        | false =>
          gi_wp2_with fail
          exact ⟨⟨i + 1, hlt, by go_num, HNX.out rfl, HBD.out⟩, by simp [intOf] <;> omega⟩
        | true =>
          gi_wp2_with fail
          go_ret
          have hpl : i < (plE l).length := by rw [plE_len]; exact hlt
          have hh : Zn.has (plE l) n t = true := any_at i hpl (by rw [HPX.out hpl, HZ.out, HBT.out]; rfl)
          rw [hh]
          exact ⟨rfl, below5 HB1.out HBD.out⟩
    · have hiz : ¬ ((i : Int) < (l.length : Int)) := by omega
      have HB := Lib.hid hb
      clear hb
      gi_wp2_with fail
      go_ret
      have hh : Zn.has (plE l) n t = false := any_no fun j hj => HF.out j hj (by rw [plE_len] at hj; omega)
      rw [hh]
      exact ⟨rfl, below5 HB1.out HB.out⟩
def RCutR (o : Zn.Nam) (L : List Rc.PRec) (n : Zn.Nam) (w : World) (e : Ending) (w' : World) : Prop :=
  ∃ v, e = .returned (.tuple #[v, .bool (Zn.isCut o L n)]) ∧ Rd v (Zn.cut o L n) w' ∧ Below w.heap.size w w'
set_option maxHeartbeats 1000000 in
theorem rCutOf_any {w w0 : World} (vo vr vn : Value) (l : List (El w)) (o n : List (List UInt8)) (hb0 : Below w.heap.size w w0) (hv : RecsRd vr (l.map (·.1)) w0) (na : l.length ≤ 1000) (ho : Rd vo o w0) (no : NB o) (hn : Rd vn n w0) (nn : NB n) :
    Calls Tryz.prog 18 #[.agg #[vo, vr], vn] w0 (RCutR o (plE l) n w0) := by
  obtain ⟨on, cn, rfl, _, _⟩ := hn.form
  obtain ⟨oo, co, rfl, _, _⟩ := ho.form
  obtain ⟨ov, cv, rfl⟩ : ∃ o cap, vr = .slice o l.length cap := by obtain ⟨_, o, cap, h, _⟩ := hv; exact ⟨o, cap, by rw [h, List.length_map]⟩
  obtain ⟨W1, hW1⟩ : ∃ W1, w0.alloc (.cells #[.slice oo o.length co, .slice ov l.length cv] 33) = W1 := ⟨_, rfl⟩
  obtain ⟨hb1, hbk⟩ := zBox hW1
  have HB1 := Lib.hid hb1
  have HBK := Lib.hid hbk
  have HN := Lib.hid hn
  have HO := Lib.hid ho
  have HHAS : Hid (∀ W', Below W1.heap.size W1 W' → ∀ (v : Value) (m : List (List UInt8)), Rd v m W' → NB m → Calls Tryz.prog 57 #[.agg #[.slice oo o.length co, .slice ov l.length cv], v, .int .i64 2] W' (Gives (.bool (Zn.has (plE l) m 2)) W')) := fun W' hW v m hm nm =>
    rHas_any oo o.length co _ v l m 2 (below5 hb0 (below5 hb1 hW)) (hv.kept (below5 hb1 hW)) na hm nm
  have HU := Lib.hid (refUnder_any _ _ n o W1 (hn.below hb1) (ho.below hb1) nn no)
  obtain ⟨u, hu⟩ : ∃ u, Nm.under n o = u := ⟨_, rfl⟩
  rw [hu] at HU
  have HUU := Lib.hid hu
  have NN := Lib.hid nn
  have ln : n.length ≤ 1000 := nn.1
  have lo : o.length ≤ 1000 := no.1
  have z0 : W1.cell? ⟨w0.heap.size, 0, none⟩ = some (.slice oo o.length co) := hbk.cell 0
  clear hv hb0 hn nn hb1 hbk ho no hu na
  refine (callsIn_wide (n := 0)).1 ?_
  refine callsIn_of_wp Tryz.func18 rfl trivial ?_ rfl
  simp only [Tryz.ntmps18, List.size_toArray, List.length_cons, List.length_nil, Nat.reduceAdd, Nat.reduceSub, Array.replicate_succ, Array.replicate_zero, List.push_toArray, List.append_toArray, List.nil_append, List.cons_append]
  gi_wp2_with fail
  refine (callsIn_wide.2 HU.out).mono ?_
  rintro e9 wd ⟨rfl, b9⟩
  have HBD := Lib.hid b9
  have z1 : wd.cell? ⟨w0.heap.size, 0, none⟩ = some (.slice oo o.length co) := (HBK.out.below b9).cell 0
  clear z0 b9 HU hW1
  cases u with
  | false =>
    gi_wp2_with fail
    go_ret2
    have hn' : Zn.cutAt o (plE l) n = none := by unfold Zn.cutAt; rw [if_neg (by rw [HUU.out]; exact Bool.false_ne_true)]
    obtain ⟨q1, q2⟩ := Zn.cut_none hn'
    exact ⟨.slice none 0 0, by first | (rw [q1]; done) | (rw [q1]; rfl), by rw [q2]; exact Rd.nil _, below5 HB1.out HBD.out⟩
  | true =>
    have hle := Nm.under_le' HUU.out
    have hlez : (o.length : Int) ≤ (n.length : Int) := by omega
    have HCA := Lib.hid (Zn.cutAt_ref (L := plE l) HUU.out)
    gi_wp2_with fail
    clear z1
    gi_loopw [6] (fun vi W => ∃ i : Nat, i ≤ n.length - o.length ∧ vi = .int .i64 ((i : Int) - 1) ∧ Hid (Zn.cutAt o (plE l) n = Zn.cutF o.length (plE l) n i) ∧ Below W1.heap.size W1 W) (fun vi _ => (intOf vi + 1).toNat)
    case atStart => exact ⟨n.length - o.length, Nat.le_refl _, by go_num, HCA.out, HBD.out⟩
    case round =>
      obtain ⟨i, hi, rfl, HF, hb⟩ := hrel
      have z0 : wr.cell? ⟨w0.heap.size, 0, none⟩ = some (.slice oo o.length co) := (HBK.out.below hb).cell 0
      have z1 : wr.cell? ⟨w0.heap.size, 1, none⟩ = some (.slice ov l.length cv) := (HBK.out.below hb).cell 1
      cases i with
      | zero =>
        have HB := Lib.hid hb
        clear hb z0 z1
        gi_wp2_with fail
        go_ret2
        obtain ⟨q1, q2⟩ := Zn.cut_none (show Zn.cutAt o (plE l) n = none by rw [HF.out]; rfl)
        exact ⟨.slice none 0 0, by first | (rw [q1]; done) | (rw [q1]; rfl), by rw [q2]; exact Rd.nil _, below5 HB1.out HB.out⟩
      | succ k =>
        have hkz : (0 : Int) ≤ (k : Int) := by omega
        have hkn : k ≤ n.length := by omega
        have hkz2 : (k : Int) ≤ (n.length : Int) := by omega
        have e1 : ((k + 1 : Nat) : Int) - 1 = (k : Int) := by omega
        rw [e1]
        have hcn : n.length ≤ cn := by obtain ⟨_, _, e, h1, _⟩ := HN.out; cases e; exact h1
        have hck : ¬ (cn = k) := by omega
        have hkl : k + o.length < n.length := by omega
        have hrd := (HN.out.below (below5 HB1.out hb)).tail k hkn
        have hnd : NB (n.drop k) := NN.out.drop k
        obtain ⟨z, hz⟩ : ∃ z, Zn.has (plE l) (n.drop k) 2 = z := ⟨_, rfl⟩
        have HHK : Hid (∀ W', Below W1.heap.size W1 W' → Calls Tryz.prog 57 #[.agg #[.slice oo o.length co, .slice ov l.length cv], .slice (on.map (·.add k)) (n.length - k) (cn - k), .int .i64 2] W' (Gives (.bool z) W')) := fun W' hW => by
          have h := HHAS.out W' hW _ (n.drop k) ((HN.out.below (below5 HB1.out hW)).tail k hkn) hnd
          rw [hz] at h; exact h
        have HCS : Hid (∀ W', Below W1.heap.size W1 W' → Cs [(⟨w0.heap.size, 0, none⟩, .slice oo o.length co), (⟨w0.heap.size, 1, none⟩, .slice ov l.length cv)] W') := fun W' hW => ⟨(HBK.out.below hW).cell 0, (HBK.out.below hW).cell 1, trivial⟩
        have HRD := Lib.hid hrd
        have HZ := Lib.hid hz
        have HB := Lib.hid hb
        have HKL := Lib.hid hkl
        clear hb e1 hrd hnd hz z0 z1 hkl
        gi_wp2_with fail
        refine drawnH [0] (Cs [(⟨w0.heap.size, 0, none⟩, .slice oo o.length co), (⟨w0.heap.size, 1, none⟩, .slice ov l.length cv)]) 5 rfl (by kernel_rfl) ?_
        intro wa hwa
        have HBA : Hid (Below W1.heap.size W1 wa) := by subst hwa; exact HB.out.drew
        have hS := HCS.out wa HBA.out
        clear hwa
        refine takeP 1 (v := ?qav1) (fun _ => trivial) (by rfl) (by kernel_rfl) (.inl ⟨by kernel_rfl, fun w1 _ => ?qay1⟩) ?_
        case qay1 => (go_simp; try first | rfl | (rw [if_pos (by omega)]) | (rw [if_neg (by omega)]) | (rw [if_neg (by simp; omega)]) | (split <;> first | (exfalso; omega) | rfl))
        refine takeP 2 (v := ?qav2) (fun _ => trivial) (by rfl) (by kernel_rfl) (.inl ⟨by kernel_rfl, fun w1 _ => ?qay2⟩) ?_
        case qay2 => (go_simp; try first | rfl | (rw [if_pos (by omega)]) | (rw [if_neg (by omega)]) | (rw [if_neg (by simp; omega)]) | (split <;> first | (exfalso; omega) | rfl))
        refine takeP 3 (v := ?qav3) (fun _ => trivial) (by rfl) (by kernel_rfl) (.inl ⟨by kernel_rfl, fun w1 _ => ?qay3⟩) ?_
        case qay3 => (go_simp; try first | rfl | (rw [if_pos (by omega)]) | (rw [if_neg (by omega)]) | (rw [if_neg (by simp; omega)]) | (split <;> first | (exfalso; omega) | rfl))
        simp only [Act.put, List.setIfInBounds_toArray, List.set_cons_succ, List.set_cons_zero]
        refine takeH 0 (v := ?qav0) (fun _ => trivial) (by rfl) (by kernel_rfl) hS (.inl ⟨by kernel_rfl, fun w1 ⟨x0, x1, _⟩ => ?qay0⟩) ?_
        case qay0 => (go_simp; try first | rfl | (rw [if_pos (by omega)]) | (rw [if_neg (by omega)]) | (rw [if_neg (by simp; omega)]) | (split <;> first | (exfalso; omega) | rfl))
        simp only [Act.put, List.setIfInBounds_toArray, List.set_cons_succ, List.set_cons_zero]
        refine oneH 4 (by rfl) (by kernel_rfl) (fun K hK => ?_)
        gi_wp2_with (gi_at_call 57; refine (callsIn_wide.2 (HHK.out wa HBA.out)).mono ?_; rintro e9 wb ⟨rfl, b9⟩)
        have HBB := Lib.hid (below5 HBA.out b9)
        refine hK _ _ (fun h => absurd h (by decide)) ?_
        clear hK K b9 hS
        refine doneH (by kernel_rfl) ?_
        cases z with
        | true =>
          gi_wp2_with fail
          go_ret2
          obtain ⟨q1, q2⟩ := Zn.cut_some (show Zn.cutAt o (plE l) n = some k by rw [HF.out]; exact Zn.cutF_hit (by simp; have := HKL.out; omega) HZ.out)
          exact ⟨.slice (on.map (·.add k)) (n.length - k) (cn - k), by first | (rw [q1]; done) | (rw [q1]; rfl), by rw [q2]; exact (HN.out.below (below5 HB1.out HBB.out)).tail k hkn, below5 HB1.out HBB.out⟩
        | false =>
          gi_wp2_with fail
          exact ⟨⟨k, by omega, by go_num, by rw [HF.out]; exact Zn.cutF_go HKL.out HZ.out, HBB.out⟩, by simp [intOf] <;> omega⟩
set_option maxHeartbeats 1000000 in
theorem rWhere_any {w w0 : World} (vo vr vn : Value) (l : List (El w)) (o n : List (List UInt8)) (hb0 : Below w.heap.size w w0) (hv : RecsRd vr (l.map (·.1)) w0) (na : l.length ≤ 1000) (ho : Rd vo o w0) (no : NB o) (hn : Rd vn n w0) (nn : NB n) :
    Calls Tryz.prog 22 #[.agg #[vo, vr], vn] w0 (Gives (.int .i64 (Zn.wher o (plE l) n)) w0) := by
  obtain ⟨on, cn, rfl, _, _⟩ := hn.form
  obtain ⟨oo, co, rfl, _, _⟩ := ho.form
  obtain ⟨ov, cv, rfl⟩ : ∃ o cap, vr = .slice o l.length cap := by obtain ⟨_, o, cap, h, _⟩ := hv; exact ⟨o, cap, by rw [h, List.length_map]⟩
  obtain ⟨W1, hW1⟩ : ∃ W1, w0.alloc (.cells #[.slice oo o.length co, .slice ov l.length cv] 33) = W1 := ⟨_, rfl⟩
  obtain ⟨hb1, hbk⟩ := zBox hW1
  have HB1 := Lib.hid hb1
  have HBK := Lib.hid hbk
  have HU := Lib.hid (refUnder_any _ _ n o W1 (hn.below hb1) (ho.below hb1) nn no)
  have HC : Hid (∀ W', Below W1.heap.size W1 W' → Calls Tryz.prog 18 #[.agg #[.slice oo o.length co, .slice ov l.length cv], .slice on n.length cn] W' (RCutR o (plE l) n W')) := fun W' hW =>
    rCutOf_any _ _ _ l o n (below5 hb0 (below5 hb1 hW)) (hv.kept (below5 hb1 hW)) na (ho.below (below5 hb1 hW)) no (hn.below (below5 hb1 hW)) nn
  obtain ⟨u, hu⟩ : ∃ u, Nm.under n o = u := ⟨_, rfl⟩
  rw [hu] at HU
  have HUU := Lib.hid hu
  have ln : n.length ≤ 1000 := nn.1
  have z0 : W1.cell? ⟨w0.heap.size, 0, none⟩ = some (.slice oo o.length co) := hbk.cell 0
  clear hv hb0 hn nn hb1 hbk ho no hu na
  refine (callsIn_wide (n := 0)).1 ?_
  refine callsIn_of_wp Tryz.func22 rfl trivial ?_ rfl
  simp only [Tryz.ntmps22, List.size_toArray, List.length_cons, List.length_nil, Nat.reduceAdd, Nat.reduceSub, Array.replicate_succ, Array.replicate_zero, List.push_toArray, List.append_toArray, List.nil_append, List.cons_append]
  gi_wp2_with fail
  refine (callsIn_wide.2 HU.out).mono ?_
  rintro e9 wd ⟨rfl, b9⟩
  have HBD := Lib.hid b9
  have z1 : wd.cell? ⟨w0.heap.size, 0, none⟩ = some (.slice oo o.length co) := (HBK.out.below b9).cell 0
  have z2 : wd.cell? ⟨w0.heap.size, 1, none⟩ = some (.slice ov l.length cv) := (HBK.out.below b9).cell 1
  clear z0 b9 HU hW1
  cases u with
  | false =>
    gi_wp2_with fail
    go_ret
    have hn' : Zn.wher o (plE l) n = 0 := by unfold Zn.wher; rw [if_neg (by rw [HUU.out]; exact Bool.false_ne_true)]
    rw [hn']
    exact ⟨rfl, below5 HB1.out HBD.out⟩
  | true =>
    gi_wp2_with fail
    refine (callsIn_wide.2 (HC.out wd HBD.out)).mono ?_
    rintro e9 we ⟨v, rfl, hr, b9⟩
    obtain ⟨oc, cc, rfl, _, _⟩ := hr.form
    have HBE := Lib.hid (below5 HBD.out b9)
    clear b9 z1 z2 hr HC
    cases hca : Zn.cutAt o (plE l) n with
    | none =>
      obtain ⟨q1, q2⟩ := Zn.cut_none hca
      rw [q1, q2]
      have hw : Zn.wher o (plE l) n = 1 := Zn.wher_none HUU.out hca
      have HW := Lib.hid hw
      clear hw hca q1 q2
      gi_wp2_with fail
      go_ret
      exact ⟨by rw [HW.out]; rfl, below5 HB1.out HBE.out⟩
    | some k =>
      obtain ⟨q1, q2⟩ := Zn.cut_some hca
      obtain ⟨c, hc⟩ : ∃ c, Zn.cut o (plE l) n = c := ⟨_, rfl⟩
      have hcl : c.length ≤ n.length := by rw [← hc, q2]; simp
      have hw : Zn.wher o (plE l) n = if c.length = n.length then 2 else 3 := by
        rw [← hc, q2]
        unfold Zn.wher
        rw [if_pos HUU.out, hca]
      rw [q1, hc]
      have HW := Lib.hid hw
      have hclz : (c.length : Int) ≤ 1000 := by omega
      have hnlz : (n.length : Int) ≤ 1000 := by omega
      clear hw hca q1 q2 hc
      by_cases he : c.length = n.length
      · have hez : (c.length : Int) = (n.length : Int) := by omega
        have HE := Lib.hid he
        clear he
        gi_wp2_with fail
        go_ret
        exact ⟨by rw [HW.out, if_pos HE.out]; rfl, below5 HB1.out HBE.out⟩
      · have hez : ¬ ((c.length : Int) = (n.length : Int)) := by omega
        have HE := Lib.hid he
        clear he
        gi_wp2_with fail
        go_ret
        exact ⟨by rw [HW.out, if_neg HE.out]; rfl, below5 HB1.out HBE.out⟩
end Go.Proofs.YtneghhbclefmoaaGreat
end
section
namespace Go.Proofs.YtneghhbclefmoaaGreat
open Go.RowKit Go.Shelf Go.Sort
set_option maxRecDepth 100000

set_option maxHeartbeats 1000000 in
theorem rExists_any {w w0 : World} (vo vr vn : Value) (l : List (El w)) (o n : List (List UInt8)) (hb0 : Below w.heap.size w w0) (hv : RecsRd vr (l.map (·.1)) w0) (na : l.length ≤ 1000) (ho : Rd vo o w0) (no : NB o) (hn : Rd vn n w0) (nn : NB n) :
    Calls Tryz.prog 24 #[.agg #[vo, vr], vn] w0 (Gives (.bool (Zn.exi o (plE l) n)) w0) := by
  obtain ⟨on, cn, rfl, _, _⟩ := hn.form
  obtain ⟨oo, co, rfl, _, _⟩ := ho.form
  obtain ⟨ov, cv, rfl⟩ : ∃ o cap, vr = .slice o l.length cap := by obtain ⟨_, o, cap, h, _⟩ := hv; exact ⟨o, cap, by rw [h, List.length_map]⟩
  obtain ⟨W1, hW1⟩ : ∃ W1, w0.alloc (.cells #[.slice oo o.length co, .slice ov l.length cv] 33) = W1 := ⟨_, rfl⟩
  obtain ⟨hb1, hbk⟩ := zBox hW1
  have HB1 := Lib.hid hb1
  have HBK := Lib.hid hbk
  have HU := Lib.hid (refUnder_any _ _ n o W1 (hn.below hb1) (ho.below hb1) nn no)
  have HS : Hid (∀ W', Below W1.heap.size W1 W' → Calls Tryz.prog 63 #[.slice on n.length cn, .slice oo o.length co] W' (Gives (.bool (Nm.same n o)) W')) := fun W' hW =>
    refSame_any _ _ n o W' (hn.below (below5 hb1 hW)) (ho.below (below5 hb1 hW)) nn no
  have HV := Lib.hid hv.el
  have HB0 := Lib.hid hb0
  have HN := Lib.hid hn
  have NN := Lib.hid nn
  obtain ⟨u, hu⟩ : ∃ u, Nm.under n o = u := ⟨_, rfl⟩
  obtain ⟨s, hs⟩ : ∃ s, Nm.same n o = s := ⟨_, rfl⟩
  rw [hu] at HU
  rw [hs] at HS
  have HUU := Lib.hid hu
  have HSS := Lib.hid hs
  have lz : (l.length : Int) ≤ 1000 := by omega
  have z0 : W1.cell? ⟨w0.heap.size, 0, none⟩ = some (.slice oo o.length co) := hbk.cell 0
  clear hv hb0 hn nn hb1 hbk ho no hu hs
  refine (callsIn_wide (n := 0)).1 ?_
  refine callsIn_of_wp Tryz.func24 rfl trivial ?_ rfl
  simp only [Tryz.ntmps24, List.size_toArray, List.length_cons, List.length_nil, Nat.reduceAdd, Nat.reduceSub, Array.replicate_succ, Array.replicate_zero, List.push_toArray, List.append_toArray, List.nil_append, List.cons_append]
  gi_wp2_with fail
  refine (callsIn_wide.2 HU.out).mono ?_
  rintro e9 wd ⟨rfl, b9⟩
  have HBD := Lib.hid b9
  have z1 : wd.cell? ⟨w0.heap.size, 0, none⟩ = some (.slice oo o.length co) := (HBK.out.below b9).cell 0
  clear z0 b9 HU hW1
  cases u with
  | false =>
    gi_wp2_with fail
    go_ret
    rw [Zn.exi_out _ _ _ HUU.out]
    exact ⟨rfl, below5 HB1.out HBD.out⟩
  | true =>
    have HEX := Lib.hid (Zn.exi_ref o (plE l) n HUU.out)
    gi_wp2_with fail
    refine (callsIn_wide.2 (HS.out wd HBD.out)).mono ?_
    rintro e9 we ⟨rfl, b9⟩
    have HBE := Lib.hid (below5 HBD.out b9)
    clear b9 z1 HS
    cases s with
    | true =>
      gi_wp2_with fail
      go_ret
      rw [HEX.out, HSS.out, Bool.true_or]
      exact ⟨rfl, below5 HB1.out HBE.out⟩
    | false =>
      gi_wp2_with fail
      gi_loopw [5] (fun vi W => ∃ i : Nat, i ≤ l.length ∧ vi = .int .i64 i ∧ Hid (∀ j (hj : j < (plE l).length), j < i → Nm.under (plE l)[j].owner n = false) ∧ Below W1.heap.size W1 W) (fun vi _ => l.length - (intOf vi).toNat)
      case atStart => exact ⟨0, Nat.zero_le _, rfl, fun j _ h => by omega, HBE.out⟩
      case round =>
        obtain ⟨i, hi, rfl, HF, hb⟩ := hrel
        have z1 : wr.cell? ⟨w0.heap.size, 1, none⟩ = some (.slice ov l.length cv) := (HBK.out.below hb).cell 1
        by_cases hlt : i < l.length
        · have hiz : (i : Int) < (l.length : Int) := by omega
          obtain ⟨x, hx⟩ : ∃ x, l[i] = x := ⟨_, rfl⟩
          obtain ⟨p0, n0, q0, p1, n1, q1, p2, n2, q2, p3, n3, q3, p4, n4, q4, ex⟩ := x.cells
          obtain ⟨ga, rfl, e0, e1, e2, e3, e4, e5, e6⟩ := HV.out _ (below5 HB1.out hb) i hlt _ _ _ _ _ _ _ (by rw [hx]; exact ex)
          obtain ⟨ea, hea⟩ : ∃ q, ga.add (i * 7) = q := ⟨_, rfl⟩
          rw [hea] at e0 e1 e2 e3 e4 e5 e6
          have hro : Rd (.slice p0 n0 q0) x.1.2.owner w := by
            have h := x.2.1
            rw [show x.1.1 = _ from ex] at h
            obtain ⟨vo, ds, h1, h2, _⟩ := h
            cases h1; exact h2
          have hpx : ∀ h : i < (plE l).length, (plE l)[i] = x.1.2 := fun h => by rw [plE_get, hx]
          have HSM := Lib.hid (refUnder_any _ _ x.1.2.owner n wr (hro.below (below5 HB0.out (below5 HB1.out hb))) (HN.out.below (below5 HB1.out hb)) x.2.2.owner NN.out)
          obtain ⟨z, hz⟩ : ∃ z, Nm.under x.1.2.owner n = z := ⟨_, rfl⟩
          rw [hz] at HSM
          have HPX := Lib.hid hpx
          have HZ := Lib.hid hz
          have HB := Lib.hid hb
          clear hx ex hro hpx hz hb
          gi_wp2_with fail
          refine (callsIn_wide.2 HSM.out).mono ?_
          rintro e9 wf ⟨rfl, b9⟩
          have HBF := Lib.hid (below5 HB.out b9)
          clear b9 e0 e1 e2 e3 e4 e5 e6 z1 HSM
          cases z with
          | false =>
            gi_wp2_with fail
            refine ⟨⟨i + 1, hlt, by go_num, ?_, HBF.out⟩, by simp [intOf] <;> omega⟩
            show ∀ j (hj : j < (plE l).length), j < i + 1 → _
            intro j hj hji
            by_cases hjl : j < i
            · exact HF.out j hj hjl
            · obtain rfl : j = i := by omega
              rw [HPX.out hj, HZ.out]
          | true =>
            gi_wp2_with fail
            go_ret
            have hpl : i < (plE l).length := by rw [plE_len]; exact hlt
            rw [HEX.out, HSS.out, Bool.false_or, any_at i hpl (by rw [HPX.out hpl, HZ.out])]
            exact ⟨rfl, below5 HB1.out HBF.out⟩
        · have hiz : ¬ ((i : Int) < (l.length : Int)) := by omega
          have HB := Lib.hid hb
          clear hb
          gi_wp2_with fail
          go_ret
          rw [HEX.out, HSS.out, Bool.false_or, any_no fun j hj => HF.out j hj (by rw [plE_len] at hj; omega)]
          exact ⟨rfl, below5 HB1.out HB.out⟩
set_option maxHeartbeats 1000000 in
theorem rEncloser_any {w w0 : World} (vo vr vn : Value) (l : List (El w)) (o n : List (List UInt8)) (hb0 : Below w.heap.size w w0) (hv : RecsRd vr (l.map (·.1)) w0) (na : l.length ≤ 1000) (ho : Rd vo o w0) (no : NB o) (hn : Rd vn n w0) (nn : NB n) :
    Calls Tryz.prog 26 #[.agg #[vo, vr], vn] w0 (RdOf (Zn.encl o (plE l) n) w0) := by
  obtain ⟨on, cn, rfl, hcn, _⟩ := hn.form
  obtain ⟨oo, co, rfl, _, _⟩ := ho.form
  obtain ⟨ov, cv, rfl⟩ : ∃ o cap, vr = .slice o l.length cap := by obtain ⟨_, o, cap, h, _⟩ := hv; exact ⟨o, cap, by rw [h, List.length_map]⟩
  obtain ⟨W1, hW1⟩ : ∃ W1, w0.alloc (.cells #[.slice oo o.length co, .slice ov l.length cv] 33) = W1 := ⟨_, rfl⟩
  obtain ⟨hb1, hbk⟩ := zBox hW1
  have HW1 := Lib.hid hW1
  have HB1 := Lib.hid hb1
  have HBK := Lib.hid hbk
  have HN := Lib.hid hn
  have HEX : Hid (∀ W', Below W1.heap.size W1 W' → ∀ (v : Value) (m : List (List UInt8)), Rd v m W' → NB m → Calls Tryz.prog 24 #[.agg #[.slice oo o.length co, .slice ov l.length cv], v] W' (Gives (.bool (Zn.exi o (plE l) m)) W')) := fun W' hW v m hm nm =>
    rExists_any _ _ v l o m (below5 hb0 (below5 hb1 hW)) (hv.kept (below5 hb1 hW)) na (ho.below (below5 hb1 hW)) no hm nm
  have NN := Lib.hid nn
  have ln : n.length ≤ 1000 := nn.1
  clear hv hb0 hn nn hb1 hbk ho no na hW1
  refine (callsIn_wide (n := 0)).1 ?_
  refine callsIn_of_wp Tryz.func26 rfl trivial ?_ rfl
  simp only [Tryz.ntmps26, List.size_toArray, List.length_cons, List.length_nil, Nat.reduceAdd, Nat.reduceSub, Array.replicate_succ, Array.replicate_zero, List.push_toArray, List.append_toArray, List.nil_append, List.cons_append]
  gi_wp2_with fail
  rw [HW1.out]
  clear HW1
  gi_loopw [5] (fun vi W => ∃ i : Nat, i ≤ n.length + 1 ∧ vi = .int .i64 i ∧ Hid (∀ j, j < i → Zn.exi o (plE l) (n.drop j) = false) ∧ Below W1.heap.size W1 W) (fun vi _ => n.length + 1 - (intOf vi).toNat)
  case atStart => exact ⟨0, Nat.zero_le _, rfl, fun j h => by omega, Below.refl _ _⟩
  case round =>
    obtain ⟨i, hi, rfl, HF, hb⟩ := hrel
    by_cases hlt : i ≤ n.length
    · have hiz : (i : Int) ≤ (n.length : Int) := by omega
      obtain ⟨z, hz⟩ : ∃ z, Zn.exi o (plE l) (n.drop i) = z := ⟨_, rfl⟩
      have HCS : Hid (∀ W', Below W1.heap.size W1 W' → Cs [(⟨w0.heap.size, 0, none⟩, .slice oo o.length co), (⟨w0.heap.size, 1, none⟩, .slice ov l.length cv)] W') := fun W' hW => ⟨(HBK.out.below hW).cell 0, (HBK.out.below hW).cell 1, trivial⟩
      obtain ⟨ot, hot⟩ : ∃ ot, (if cn = i then on else on.map (·.add i)) = ot := ⟨_, rfl⟩
      have HRD : Hid (∀ W', Below W1.heap.size W1 W' → Rd (.slice ot (n.length - i) (cn - i)) (n.drop i) W') := fun W' hW => by
        have h := HN.out.below (below5 HB1.out hW)
        rw [← hot]
        by_cases hc : cn = i
        · rw [if_pos hc]
          have h2 := h.tail0 i hlt hc
          rw [show cn - i = 0 by omega]; exact h2
        · rw [if_neg hc]; exact h.tail i hlt
      have HZZ : Hid (∀ W', Below W1.heap.size W1 W' → Calls Tryz.prog 24 #[.agg #[.slice oo o.length co, .slice ov l.length cv], .slice ot (n.length - i) (cn - i)] W' (Gives (.bool z) W')) := fun W' hW => by
        have h := HEX.out W' hW _ (n.drop i) (HRD.out W' hW) (NN.out.drop i)
        rw [hz] at h; exact h
      have HZ := Lib.hid hz
      have HB := Lib.hid hb
      clear hb hz
      gi_wp2_with fail
      refine drawnH [0] (Cs [(⟨w0.heap.size, 0, none⟩, .slice oo o.length co), (⟨w0.heap.size, 1, none⟩, .slice ov l.length cv)]) 5 rfl (by kernel_rfl) ?_
      intro wa hwa
      have HBA : Hid (Below W1.heap.size W1 wa) := by subst hwa; exact HB.out.drew
      have hS := HCS.out wa HBA.out
      clear hwa
      refine takeP 1 (v := ?qav1) (fun _ => trivial) (by rfl) (by kernel_rfl) (.inl ⟨by kernel_rfl, fun w1 _ => ?qay1⟩) ?_
      case qay1 => (go_simp; try first | rfl | (rw [if_pos (by omega)]) | (rw [if_neg (by omega)]) | (rw [if_neg (by simp; omega)]) | (split <;> first | (exfalso; omega) | rfl))
      refine takeP 2 (v := ?qav2) (fun _ => trivial) (by rfl) (by kernel_rfl) (.inl ⟨by kernel_rfl, fun w1 _ => ?qay2⟩) ?_
      case qay2 => (go_simp; try first | rfl | (rw [if_pos (by omega)]) | (rw [if_neg (by omega)]) | (rw [if_neg (by simp; omega)]) | (split <;> first | (exfalso; omega) | rfl))
      refine takeP 3 (v := ?qav3) (fun _ => trivial) (by rfl) (by kernel_rfl) (.inl ⟨by kernel_rfl, fun w1 _ => ?qay3⟩) ?_
      case qay3 => (go_simp; try first | rfl | (rw [if_pos (by omega)]) | (rw [if_neg (by omega)]) | (rw [if_neg (by simp; omega)]) | (split <;> first | (exfalso; omega) | rfl))
      simp only [Act.put, List.setIfInBounds_toArray, List.set_cons_succ, List.set_cons_zero]
      refine takeH 0 (v := ?qav0) (fun _ => trivial) (by rfl) (by kernel_rfl) hS (.inl ⟨by kernel_rfl, fun w1 ⟨x0, x1, _⟩ => ?qay0⟩) ?_
      case qay0 => (go_simp; try first | rfl | (rw [if_pos (by omega)]) | (rw [if_neg (by omega)]) | (rw [if_neg (by simp; omega)]) | (split <;> first | (exfalso; omega) | rfl))
      simp only [Act.put, List.setIfInBounds_toArray, List.set_cons_succ, List.set_cons_zero]
      try rw [hot]
      refine oneH 4 (by rfl) (by kernel_rfl) (fun K hK => ?_)
      gi_wp2_with (gi_at_call 24; refine (callsIn_wide.2 (HZZ.out wa HBA.out)).mono ?_; rintro e9 wb ⟨rfl, b9⟩)
      have HBB := Lib.hid (below5 HBA.out b9)
      refine hK _ _ (fun h => absurd h (by decide)) ?_
      clear hK K b9 hS
      refine doneH (by kernel_rfl) ?_
      cases z with
      | true =>
        gi_wp2_with fail
        try rw [hot]
        go_ret
        exact ⟨_, rfl, by rw [Zn.encl_first hlt HF.out HZ.out]; exact HRD.out _ HBB.out, below5 HB1.out HBB.out⟩
      | false =>
        gi_wp2_with fail
        refine ⟨⟨i + 1, by omega, by go_num, ?_, HBB.out⟩, by simp [intOf] <;> omega⟩
        show ∀ j, j < i + 1 → _
        intro j hj
        by_cases hjl : j < i
        · exact HF.out j hjl
        · obtain rfl : j = i := by omega
          exact HZ.out
    · have hiz : ¬ ((i : Int) ≤ (n.length : Int)) := by omega
      have HB := Lib.hid hb
      clear hb
      gi_wp2_with fail
      go_ret
      exact ⟨_, rfl, by rw [Zn.encl_no fun j hj => HF.out j (by omega)]; exact Rd.nil _, below5 HB1.out HB.out⟩
set_option maxHeartbeats 1000000 in
theorem rSource_any {w w0 : World} (vo vr vn : Value) (l : List (El w)) (o n : List (List UInt8)) (hb0 : Below w.heap.size w w0) (hv : RecsRd vr (l.map (·.1)) w0) (na : l.length ≤ 1000) (ho : Rd vo o w0) (no : NB o) (hn : Rd vn n w0) (nn : NB n) (hl : n.length < 1000) :
    Calls Tryz.prog 20 #[.agg #[vo, vr], vn] w0 (SrcR o (plE l) n w0) := by
  obtain ⟨on, cn, rfl, hcn, _⟩ := hn.form
  obtain ⟨oo, co, rfl, _, _⟩ := ho.form
  obtain ⟨ov, cv, rfl⟩ : ∃ o cap, vr = .slice o l.length cap := by obtain ⟨_, o, cap, h, _⟩ := hv; exact ⟨o, cap, by rw [h, List.length_map]⟩
  obtain ⟨W1, hW1⟩ : ∃ W1, w0.alloc (.cells #[.slice oo o.length co, .slice ov l.length cv] 33) = W1 := ⟨_, rfl⟩
  obtain ⟨hb1, hbk⟩ := zBox hW1
  have HB1 := Lib.hid hb1
  have HBK := Lib.hid hbk
  have HEN := Lib.hid (rEncloser_any (w0 := W1) _ _ _ l o n (below5 hb0 hb1) (hv.kept hb1) na (ho.below hb1) no (hn.below hb1) nn)
  have hne : NB (Zn.encl o (plE l) n) := by obtain ⟨k, e⟩ := Zn.encl_suf o (plE l) n; rw [e]; exact nn.drop k
  have hel := Zn.encl_len o (plE l) n
  have hns : NB (Zn.star o (plE l) n) := ⟨by unfold Zn.star; rw [List.length_cons]; omega, fun x hx => by
    unfold Zn.star at hx
    rcases List.mem_cons.1 hx with rfl | hx
    · simp
    · exact hne.2 x hx⟩
  have HNE := Lib.hid hne
  have HNS := Lib.hid hns
  have HV := Lib.hid hv.el
  have HB0 := Lib.hid hb0
  have lz : (l.length : Int) ≤ 1000 := by omega
  have z0 : W1.cell? ⟨w0.heap.size, 0, none⟩ = some (.slice oo o.length co) := hbk.cell 0
  have z1 : W1.cell? ⟨w0.heap.size, 1, none⟩ = some (.slice ov l.length cv) := hbk.cell 1
  clear hv hb0 hn nn hb1 hbk ho no hne hns hel
  refine (callsIn_wide (n := 0)).1 ?_
  refine callsIn_of_wp Tryz.func20 rfl trivial ?_ rfl
  simp only [Tryz.ntmps20, List.size_toArray, List.length_cons, List.length_nil, Nat.reduceAdd, Nat.reduceSub, Array.replicate_succ, Array.replicate_zero, List.push_toArray, List.append_toArray, List.nil_append, List.cons_append]
  gi_wp2_with fail
  refine (callsIn_wide.2 HEN.out).mono ?_
  rintro e9 wd ⟨ve, rfl, he, b9⟩
  have HCH := Lib.hid (refChild_any [42] ve (Zn.encl o (plE l) n) wd he HNE.out)
  have HBD := Lib.hid b9
  clear z0 z1 b9 he HEN hW1
  gi_wp2_with fail
  refine (callsIn_wide.2 HCH.out).mono ?_
  rintro e9 we ⟨vs, rfl, hs, b9⟩
  obtain ⟨st, hst⟩ : ∃ st, Zn.star o (plE l) n = st := ⟨_, rfl⟩
  have hs' : Rd vs st we := by rw [← hst]; exact hs
  obtain ⟨os, cs, rfl, _, _⟩ := hs'.form
  rw [hst] at HNS
  have HST := Lib.hid hst
  have HSR := Lib.hid hs'
  have HBE := Lib.hid (below5 HBD.out b9)
  have hsl : (st.length : Int) ≤ 1000 := by have := HNS.out.1; omega
  clear b9 hs hs' hst HCH HNE
  gi_wp2_with fail
  gi_loopw [7] (fun vi W => ∃ i : Nat, i ≤ l.length ∧ vi = .int .i64 i ∧ Hid (∀ j (hj : j < (plE l).length), j < i → Nm.same (plE l)[j].owner st = false) ∧ Below we.heap.size we W) (fun vi _ => l.length - (intOf vi).toNat)
  case atStart => exact ⟨0, Nat.zero_le _, rfl, fun j _ h => by omega, Below.refl _ _⟩
  case round =>
    obtain ⟨i, hi, rfl, HF, hb⟩ := hrel
    have hbW := below5 HBE.out hb
    have z1 : wr.cell? ⟨w0.heap.size, 1, none⟩ = some (.slice ov l.length cv) := (HBK.out.below hbW).cell 1
    by_cases hlt : i < l.length
    · have hiz : (i : Int) < (l.length : Int) := by omega
      obtain ⟨x, hx⟩ : ∃ x, l[i] = x := ⟨_, rfl⟩
      obtain ⟨p0, n0, q0, p1, n1, q1, p2, n2, q2, p3, n3, q3, p4, n4, q4, ex⟩ := x.cells
      obtain ⟨ga, rfl, e0, e1, e2, e3, e4, e5, e6⟩ := HV.out _ (below5 HB1.out hbW) i hlt _ _ _ _ _ _ _ (by rw [hx]; exact ex)
      obtain ⟨ea, hea⟩ : ∃ q, ga.add (i * 7) = q := ⟨_, rfl⟩
      rw [hea] at e0 e1 e2 e3 e4 e5 e6
      have hro : Rd (.slice p0 n0 q0) x.1.2.owner w := by
        have h := x.2.1
        rw [show x.1.1 = _ from ex] at h
        obtain ⟨vo, ds, h1, h2, _⟩ := h
        cases h1; exact h2
      have hpx : ∀ h : i < (plE l).length, (plE l)[i] = x.1.2 := fun h => by rw [plE_get, hx]
      have HSM := Lib.hid (refSame_any _ _ x.1.2.owner st wr (hro.below (below5 HB0.out (below5 HB1.out hbW))) (HSR.out.below hb) x.2.2.owner HNS.out)
      obtain ⟨z, hz⟩ : ∃ z, Nm.same x.1.2.owner st = z := ⟨_, rfl⟩
      rw [hz] at HSM
      have HPX := Lib.hid hpx
      have HZ := Lib.hid hz
      have HB := Lib.hid hb
      clear hx ex hro hpx hz hb hbW
      gi_wp2_with fail
      refine (callsIn_wide.2 HSM.out).mono ?_
      rintro e9 wf ⟨rfl, b9⟩
      have HBF := Lib.hid (below5 HB.out b9)
      clear b9 e0 e1 e2 e3 e4 e5 e6 z1 HSM
      cases z with
      | false =>
        gi_wp2_with fail
        refine ⟨⟨i + 1, hlt, by go_num, ?_, HBF.out⟩, by simp [intOf] <;> omega⟩
        show ∀ j (hj : j < (plE l).length), j < i + 1 → _
        intro j hj hji
        by_cases hjl : j < i
        · exact HF.out j hj hjl
        · obtain rfl : j = i := by omega
          rw [HPX.out hj, HZ.out]
      | true =>
        gi_wp2_with fail
        go_ret2
        have hpl : i < (plE l).length := by rw [plE_len]; exact hlt
        have hh : Zn.isSrc o (plE l) n = true := by
          unfold Zn.isSrc
          rw [HST.out]
          exact any_at i hpl (by rw [HPX.out hpl, HZ.out])
        exact ⟨.slice os st.length cs, by first | (rw [hh]; done) | (rw [hh]; rfl), by rw [Zn.src_is hh, HST.out]; exact HSR.out.below HBF.out, below5 HB1.out (below5 HBE.out HBF.out)⟩
    · have hiz : ¬ ((i : Int) < (l.length : Int)) := by omega
      have HB := Lib.hid hb
      clear hb hbW
      gi_wp2_with fail
      go_ret2
      have hh : Zn.isSrc o (plE l) n = false := by
        unfold Zn.isSrc
        rw [HST.out]
        exact any_no fun j hj => HF.out j hj (by rw [plE_len] at hj; omega)
      exact ⟨.slice none 0 0, by first | (rw [hh]; done) | (rw [hh]; rfl), by rw [Zn.src_no hh]; exact Rd.nil _, below5 HB1.out (below5 HBE.out HB.out)⟩
end Go.Proofs.YtneghhbclefmoaaGreat
end
section
namespace Go.Proofs.YtneghhbclefmoaaGreat
open Go.RowKit Go.Shelf Go.Sort
set_option maxRecDepth 100000

theorem rof_dat {w : World} {c : List (El w)} {l : List Rc.PRec} {o : List (List UInt8)} {t : Int} {v : Value} {ok : Bool} {W : World} (h : plE c = Rc.canon l) (hc : c.length ≤ 1000) (hr : ROfV (grp c) o t v ok W) :
    ∃ (pa : Option Addr) (pn pc : Nat) (ty : Int) (tt : Nat) (od : Option Addr) (cd : Nat) (d : List (El w)), v = .agg #[.slice pa pn pc, .int .i64 ty, .int .u32 (tt : Int), .slice od d.length cd] ∧ DatsRd (.slice od d.length cd) d W ∧ plE d = Rs.datOf (Rs.mine l o t) ∧ d.length ≤ 1000 ∧ ∀ x ∈ d, x ∈ c := by
  obtain ⟨h1, h2⟩ := Rs.mine_find l o t
  have h3 := find_map o t (grp c)
  rw [plE_grp, h] at h3
  rw [h3] at h1 h2
  unfold ROfV at hr
  cases hk : (grp c).find? (hasKey o t) with
  | none =>
    rw [hk] at hr h1
    obtain ⟨rfl, rfl⟩ := hr
    exact ⟨none, 0, 0, 0, 0, none, 0, [], rfl, DatsRd.nil W, by rw [h1]; rfl, by simp, fun x hx => by cases hx⟩
  | some k =>
    rw [hk] at hr h1 h2
    obtain ⟨cs, rfl, ⟨x, xs, po, no, qo, od, cd, rfl, rfl, e3, e4⟩, rfl⟩ := hr
    have hm : x :: xs ∈ grp c := List.mem_of_find?_eq_some hk
    have hb := grp_mem_bound hm
    refine ⟨po, no, qo, _, _, od, cd, x :: xs, rfl, e4, ?_, by omega, fun y hy => mem_grp hm hy⟩
    obtain ⟨y, ys, f1, f2⟩ := h2 _ rfl
    rw [h1]
    show plE (x :: xs) = Rs.datOf (plE (x :: xs))
    rw [f1] at f2 ⊢
    show y :: ys = List.take (Rs.run y (y :: ys)) (y :: ys)
    rw [f2, List.take_length]
def RDatR {w : World} (l : List (El w)) (n : List (List UInt8)) (t : Int) (w0 : World) (e : Ending) (w' : World) : Prop :=
  ∃ (od : Option Addr) (cd : Nat) (d : List (El w)), e = .returned (.slice od d.length cd) ∧ DatsRd (.slice od d.length cd) d w' ∧ plE d = Rs.datOf (Rs.mine (plE l) n t) ∧ d.length ≤ 1000 ∧ Below w0.heap.size w0 w'
set_option maxHeartbeats 1000000 in
theorem rDatas_any {w w0 : World} (po : Option Addr) (no qo : Nat) (vr vn : Value) (l : List (El w)) (n : List (List UInt8)) (t : Int) (hb0 : Below w.heap.size w w0) (hv : RecsRd vr (l.map (·.1)) w0) (na : l.length ≤ 1000) (hn : Rd vn n w0) (nn : NB n) :
    Calls Tryz.prog 68 #[.agg #[.slice po no qo, vr], vn, .int .i64 t] w0 (RDatR l n t w0) := by
  obtain ⟨on, cn, rfl, _, _⟩ := hn.form
  obtain ⟨ov, cv, rfl⟩ : ∃ o cap, vr = .slice o l.length cap := by obtain ⟨_, o, cap, h, _⟩ := hv; exact ⟨o, cap, by rw [h, List.length_map]⟩
  obtain ⟨W1, hW1⟩ : ∃ W1, w0.alloc (.cells #[.slice po no qo, .slice ov l.length cv] 33) = W1 := ⟨_, rfl⟩
  obtain ⟨hb1, hbk⟩ := zBox hW1
  have HB1 := Lib.hid hb1
  have HOF := Lib.hid (refOf_any (w0 := W1) _ _ l n t (below5 hb0 hb1) (hv.kept hb1) na (hn.below hb1) nn)
  have z1 : W1.cell? ⟨w0.heap.size, 1, none⟩ = some (.slice ov l.length cv) := hbk.cell 1
  clear hv hb0 hn nn hb1 hbk
  refine (callsIn_wide (n := 0)).1 ?_
  refine callsIn_of_wp Tryz.func68 rfl trivial ?_ rfl
  simp only [Tryz.ntmps68, List.size_toArray, List.length_cons, List.length_nil, Nat.reduceAdd, Nat.reduceSub, Array.replicate_succ, Array.replicate_zero, List.push_toArray, List.append_toArray, List.nil_append, List.cons_append]
  gi_wp2_with fail
  refine (callsIn_wide.2 HOF.out).mono ?_
  rintro e9 wd ⟨c, v, ok, hc, hcl, rfl, hrv, b9⟩
  obtain ⟨pa, pn, pc, ty, tt, od, cd, d, rfl, hd, hp, hdl, _⟩ := rof_dat hc (by omega) hrv
  have HD := Lib.hid hd
  have HP := Lib.hid hp
  have HBD := Lib.hid b9
  clear z1 b9 hd hp hrv HOF hW1
  gi_wp2_with fail
  go_ret
  exact ⟨od, cd, d, rfl, HD.out.below ((Below.refl _ _).alloc (Nat.le_refl _) _), HP.out, hdl, (below5 HB1.out HBD.out).alloc (below5 HB1.out HBD.out).size _⟩
theorem row_emptyD (R : Nat → Prop) (w : World) (h : R w.heap.size) : Row R 99 5 (.slice (some ⟨w.heap.size, 0, none⟩) 0 0) 0 [] (w.alloc (.cells #[] 99)) :=
  ⟨World.ownsRow_lit w #[] 0 (Nat.zero_le _) (by unfold maxLen; omega) rfl, fun g hg => by cases hg; exact h⟩
def RGluR {w : World} (l : List (El w)) (n : List (List UInt8)) (w0 : World) (e : Ending) (w' : World) : Prop :=
  ∃ (od : Option Addr) (cd : Nat) (d : List (El w)), e = .returned (.slice od d.length cd) ∧ DatsRd (.slice od d.length cd) d w' ∧ plE d = Zn.glueT (plE l) n 2 ∧ Below w0.heap.size w0 w'
theorem Row.rdats {w : World} {R : Nat → Prop} {v : Value} {l : List (El w)} {W : World} (h : Row R 99 5 v l.length (l.map encD).flatten W) : ∃ o c, v = .slice o l.length c ∧ DatsRd (.slice o l.length c) l W := by
  have hg : GRd 5 v (l.map encD) W := Row.grd (by rw [List.length_map]; exact h) (fun c hc => by
    obtain ⟨x, hx, rfl⟩ := List.mem_map.1 hc
    exact ⟨encD_len x, encD_one' x⟩)
  obtain ⟨o, cap, h1, h2, h3, h4, h5, h6⟩ := hg
  rw [List.length_map] at h1 h2
  refine ⟨o, cap, h1, o, cap, rfl, h2, h3, h4, fun j hj => ?_⟩
  have hl : j < l.length * 5 := by rw [flat_len encD 5 encD_len] at hj; exact hj
  have q1 : j / 5 < l.length := by omega
  have q2 : j % 5 < 5 := Nat.mod_lt _ (by omega)
  obtain ⟨a, ha, e⟩ := h6 (j / 5) (by rw [List.length_map]; exact q1) (j % 5) q2
  refine ⟨a, ha, ?_⟩
  rw [List.getElem_map, ← flat_get encD 5 encD_len l (j / 5) (j % 5) q1 q2] at e
  rw [show j / 5 * 5 + j % 5 = j by omega] at e
  rw [e, List.getElem?_eq_getElem hj]
set_option maxHeartbeats 2000000 in
theorem rGlue_any {w w0 : World} (vo vr vn : Value) (l : List (El w)) (o n : List (List UInt8)) (hb0 : Below w.heap.size w w0) (hv : RecsRd vr (l.map (·.1)) w0) (na : l.length ≤ 1000) (ho : Rd vo o w0) (hn : Rd vn n w0) (nn : NB n) :
    Calls Tryz.prog 29 #[.agg #[vo, vr], vn] w0 (RGluR l n w0) := by
  obtain ⟨on, cn, rfl, _, _⟩ := hn.form
  obtain ⟨oo, co, rfl, _, _⟩ := ho.form
  obtain ⟨ov, cv, rfl⟩ : ∃ o cap, vr = .slice o l.length cap := by obtain ⟨_, o, cap, h, _⟩ := hv; exact ⟨o, cap, by rw [h, List.length_map]⟩
  obtain ⟨W1, hW1⟩ : ∃ W1, w0.alloc (.cells #[.slice oo o.length co, .slice ov l.length cv] 33) = W1 := ⟨_, rfl⟩
  obtain ⟨hb1, hbk⟩ := zBox hW1
  have HB1 := Lib.hid hb1
  have HW1 := Lib.hid hW1
  have HBK := Lib.hid hbk
  have HDA : Hid (∀ (t : Int) W', Below W1.heap.size W1 W' → Calls Tryz.prog 68 #[.agg #[.slice oo o.length co, .slice ov l.length cv], .slice on n.length cn, .int .i64 t] W' (RDatR l n t W')) := fun t W' hW =>
    rDatas_any oo o.length co _ _ l n t (below5 hb0 (below5 hb1 hW)) (hv.kept (below5 hb1 hW)) na (hn.below (below5 hb1 hW)) nn
  have HCS : Hid (∀ W', Below W1.heap.size W1 W' → Cs [(⟨w0.heap.size, 0, none⟩, .slice oo o.length co), (⟨w0.heap.size, 1, none⟩, .slice ov l.length cv)] W') := fun W' hW => ⟨(HBK.out.below hW).cell 0, (HBK.out.below hW).cell 1, trivial⟩
  clear hv hb0 hn nn hb1 hbk ho hW1
  refine (callsIn_wide (n := 0)).1 ?_
  refine callsIn_of_wp Tryz.func29 rfl trivial ?_ rfl
  simp only [Tryz.ntmps29, List.size_toArray, List.length_cons, List.length_nil, Nat.reduceAdd, Nat.reduceSub, Array.replicate_succ, Array.replicate_zero, List.push_toArray, List.append_toArray, List.nil_append, List.cons_append]
  gi_wp2_with fail
  rw [HW1.out]
  clear HW1
  refine drawnH (List.range 10) (Cs [(⟨w0.heap.size, 0, none⟩, .slice oo o.length co), (⟨w0.heap.size, 1, none⟩, .slice ov l.length cv)]) 10 rfl (by kernel_rfl) ?_
  intro wa hwa
  have HBA : Hid (Below W1.heap.size W1 wa) := by subst hwa; exact (Below.refl _ _).drew
  have hS := HCS.out wa HBA.out
  clear hwa
  refine takeH 1 (v := ?qav1) (fun _ => trivial) (by rfl) (by kernel_rfl) hS (.inl ⟨by kernel_rfl, fun w1 ⟨x0, x1, _⟩ => ?qay1⟩) ?_
  case qay1 => (go_simp; try first | rfl | (rw [if_pos (by omega)]) | (rw [if_neg (by omega)]) | (rw [if_neg (by simp; omega)]) | (split <;> first | (exfalso; omega) | rfl))
  refine takeH 2 (v := ?qav2) (fun _ => trivial) (by rfl) (by kernel_rfl) hS (.inl ⟨by kernel_rfl, fun w1 ⟨x0, x1, _⟩ => ?qay2⟩) ?_
  case qay2 => (go_simp; try first | rfl | (rw [if_pos (by omega)]) | (rw [if_neg (by omega)]) | (rw [if_neg (by simp; omega)]) | (split <;> first | (exfalso; omega) | rfl))
  refine takeH 5 (v := ?qav5) (fun _ => trivial) (by rfl) (by kernel_rfl) hS (.inl ⟨by kernel_rfl, fun w1 ⟨x0, x1, _⟩ => ?qay5⟩) ?_
  case qay5 => (go_simp; try first | rfl | (rw [if_pos (by omega)]) | (rw [if_neg (by omega)]) | (rw [if_neg (by simp; omega)]) | (split <;> first | (exfalso; omega) | rfl))
  refine takeH 6 (v := ?qav6) (fun _ => trivial) (by rfl) (by kernel_rfl) hS (.inl ⟨by kernel_rfl, fun w1 ⟨x0, x1, _⟩ => ?qay6⟩) ?_
  case qay6 => (go_simp; try first | rfl | (rw [if_pos (by omega)]) | (rw [if_neg (by omega)]) | (rw [if_neg (by simp; omega)]) | (split <;> first | (exfalso; omega) | rfl))
  simp only [Act.put, List.setIfInBounds_toArray, List.set_cons_succ, List.set_cons_zero]
  refine twoH2 0 3 (by rfl) (by rfl) (by kernel_rfl) (fun K hK => ?_) (fun K hK => ?_)
  · gi_wp2_with fail
    obtain ⟨wb, hwb⟩ : ∃ W, wa.alloc (.cells #[] 99) = W := ⟨_, rfl⟩
    obtain ⟨bx, hbx⟩ : ∃ b, wa.heap.size = b := ⟨_, rfl⟩
    have hrow := row_emptyD (fun g => W1.heap.size ≤ g) wa HBA.out.size
    have hbb : Below W1.heap.size W1 wb := by rw [← hwb]; exact HBA.out.alloc HBA.out.size _
    rw [hwb, hbx] at hrow
    rw [hwb, hbx]
    have HRW := Lib.hid hrow
    have HBB := Lib.hid hbb
    refine hK _ _ (fun _ => HCS.out wb hbb) ?_
    clear hK K hS hwb hbx hrow hbb
    refine oneH 3 (by rfl) (by kernel_rfl) (fun K hK => ?_)
    gi_wp2_with (gi_at_call 68; refine (callsIn_wide.2 (HDA.out 1 wb HBB.out)).mono ?_; rintro e9 wc ⟨od, cd, d, rfl, hd, hp, hdl, b9⟩)
    have HRC := Lib.hid (HRW.out.below b9)
    have HBC := Lib.hid (below5 HBB.out b9)
    have HDD := Lib.hid hd
    have HPP := Lib.hid hp
    have HDL := Lib.hid hdl
    refine hK _ _ (fun _ => HCS.out wc HBC.out) ?_
    clear hK K b9 hd hp hdl HRW
    refine oneH 4 (by rfl) (by kernel_rfl) (fun K hK => ?_)
    gi_wp2_with (gi_at_builtin; refine append_g (fun g => W1.heap.size ≤ g) 99 _ 5 104 info_rdat rfl (by decide) rfl _ _ _ Tryz.underlying51 rfl _ 0 [] (by rfl) HRC.out _ (d.map encD) (by rfl) HDD.out.grd (by rw [List.length_map]; have := HDL.out; omega) (by omega) HBC.out.size ?_; intro v10 w10 hrow10 hgr10; have HR10 := Lib.hid hrow10; have HGR10 := Lib.hid hgr10; clear hrow10 hgr10)
    have HB10 := Lib.hid (HBC.out.grown HGR10.out HBC.out.size (fun g hg => HRC.out.2 g hg))
    have HR11 : Hid (Row (fun g => W1.heap.size ≤ g) 99 5 v10 d.length (d.map encD).flatten w10) := by have h := HR10.out; rw [List.length_map, Nat.zero_add, List.nil_append] at h; exact h
    refine hK _ _ (fun _ => HCS.out w10 HB10.out) ?_
    clear hK K HR10 HGR10 HRC HDD
    refine oneH 7 (by rfl) (by kernel_rfl) (fun K hK => ?_)
    gi_wp2_with (gi_at_call 68; refine (callsIn_wide.2 (HDA.out 28 w10 HB10.out)).mono ?_; rintro e9 w11 ⟨oe, ce, d2, rfl, hd, hp, hdl, b9⟩)
    have HR12 := Lib.hid (HR11.out.below b9)
    have HB11 := Lib.hid (below5 HB10.out b9)
    have HDE := Lib.hid hd
    have HPE := Lib.hid hp
    have HDM := Lib.hid hdl
    refine hK _ _ (fun _ => HCS.out w11 HB11.out) ?_
    clear hK K b9 hd hp hdl HR11
    refine oneH 8 (by rfl) (by kernel_rfl) (fun K hK => ?_)
    gi_wp2_with (gi_at_builtin; refine append_g (fun g => W1.heap.size ≤ g) 99 _ 5 104 info_rdat rfl (by decide) rfl _ _ _ Tryz.underlying51 rfl _ d.length (d.map encD) (by rfl) HR12.out _ (d2.map encD) (by rfl) HDE.out.grd (by rw [List.length_map]; have := HDL.out; have := HDM.out; omega) (by omega) HB11.out.size ?_; intro v13 w13 hrow13 hgr13; have HR13 := Lib.hid hrow13; have HGR13 := Lib.hid hgr13; clear hrow13 hgr13)
    have HB13 := Lib.hid (HB11.out.grown HGR13.out HB11.out.size (fun g hg => HR12.out.2 g hg))
    have HR14 : Hid (Row (fun g => W1.heap.size ≤ g) 99 5 v13 (d ++ d2).length ((d ++ d2).map encD).flatten w13) := by have h := HR13.out; rw [List.length_map, ← List.map_append] at h; rw [List.length_append]; exact h
    refine hK _ _ (fun _ => HCS.out w13 HB13.out) ?_
    clear hK K HR13 HGR13 HR12 HDE
    obtain ⟨oz, cz, rfl, hdz⟩ := HR14.out.rdats
    have HDZ := Lib.hid hdz
    clear hdz
    refine oneH 9 (by rfl) (by kernel_rfl) (fun K hK => ?_)
    gi_wp2_with fail
    refine hK _ _ (fun _ => HCS.out w13 HB13.out) ?_
    clear hK K
    refine doneH (by kernel_rfl) ?_
    gi_wp2_with fail
    go_ret
    refine ⟨oz, cz, d ++ d2, by rw [List.length_append]; rfl, HDZ.out, ?_, below5 HB1.out HB13.out⟩
    have e1 : plE (d ++ d2) = plE d ++ plE d2 := by simp [plE]
    rw [e1, HPP.out, HPE.out]
    rfl
  · gi_wp2_with (gi_at_call 68; refine (callsIn_wide.2 (HDA.out 1 wa HBA.out)).mono ?_; rintro e9 wb ⟨od, cd, d, rfl, hd, hp, hdl, b9⟩)
    have HBB := Lib.hid (below5 HBA.out b9)
    have HPP := Lib.hid hp
    have HDL := Lib.hid hdl
    have HDB := Lib.hid hd
    refine hK _ _ (fun _ => HCS.out wb HBB.out) ?_
    clear hK K b9 hd hp hdl hS
    refine oneH 0 (by rfl) (by kernel_rfl) (fun K hK => ?_)
    gi_wp2_with fail
    obtain ⟨wc, hwc⟩ : ∃ W, wb.alloc (.cells #[] 99) = W := ⟨_, rfl⟩
    obtain ⟨bx, hbx⟩ : ∃ b, wb.heap.size = b := ⟨_, rfl⟩
    have hrow := row_emptyD (fun g => W1.heap.size ≤ g) wb HBB.out.size
    have hbc : Below W1.heap.size W1 wc := by rw [← hwc]; exact HBB.out.alloc HBB.out.size _
    have hdc : DatsRd (.slice od d.length cd) d wc := by rw [← hwc]; exact HDB.out.below ((Below.refl _ _).alloc (Nat.le_refl _) _)
    rw [hwc, hbx] at hrow
    rw [hwc, hbx]
    have HRC := Lib.hid hrow
    have HBC := Lib.hid hbc
    have HDD := Lib.hid hdc
    refine hK _ _ (fun _ => HCS.out wc hbc) ?_
    clear hK K hwc hbx hrow hbc hdc
    refine oneH 4 (by rfl) (by kernel_rfl) (fun K hK => ?_)
    gi_wp2_with (gi_at_builtin; refine append_g (fun g => W1.heap.size ≤ g) 99 _ 5 104 info_rdat rfl (by decide) rfl _ _ _ Tryz.underlying51 rfl _ 0 [] (by rfl) HRC.out _ (d.map encD) (by rfl) HDD.out.grd (by rw [List.length_map]; have := HDL.out; omega) (by omega) HBC.out.size ?_; intro v10 w10 hrow10 hgr10; have HR10 := Lib.hid hrow10; have HGR10 := Lib.hid hgr10; clear hrow10 hgr10)
    have HB10 := Lib.hid (HBC.out.grown HGR10.out HBC.out.size (fun g hg => HRC.out.2 g hg))
    have HR11 : Hid (Row (fun g => W1.heap.size ≤ g) 99 5 v10 d.length (d.map encD).flatten w10) := by have h := HR10.out; rw [List.length_map, Nat.zero_add, List.nil_append] at h; exact h
    refine hK _ _ (fun _ => HCS.out w10 HB10.out) ?_
    clear hK K HR10 HGR10 HRC HDD
    refine oneH 7 (by rfl) (by kernel_rfl) (fun K hK => ?_)
    gi_wp2_with (gi_at_call 68; refine (callsIn_wide.2 (HDA.out 28 w10 HB10.out)).mono ?_; rintro e9 w11 ⟨oe, ce, d2, rfl, hd, hp, hdl, b9⟩)
    have HR12 := Lib.hid (HR11.out.below b9)
    have HB11 := Lib.hid (below5 HB10.out b9)
    have HDE := Lib.hid hd
    have HPE := Lib.hid hp
    have HDM := Lib.hid hdl
    refine hK _ _ (fun _ => HCS.out w11 HB11.out) ?_
    clear hK K b9 hd hp hdl HR11
    refine oneH 8 (by rfl) (by kernel_rfl) (fun K hK => ?_)
    gi_wp2_with (gi_at_builtin; refine append_g (fun g => W1.heap.size ≤ g) 99 _ 5 104 info_rdat rfl (by decide) rfl _ _ _ Tryz.underlying51 rfl _ d.length (d.map encD) (by rfl) HR12.out _ (d2.map encD) (by rfl) HDE.out.grd (by rw [List.length_map]; have := HDL.out; have := HDM.out; omega) (by omega) HB11.out.size ?_; intro v13 w13 hrow13 hgr13; have HR13 := Lib.hid hrow13; have HGR13 := Lib.hid hgr13; clear hrow13 hgr13)
    have HB13 := Lib.hid (HB11.out.grown HGR13.out HB11.out.size (fun g hg => HR12.out.2 g hg))
    have HR14 : Hid (Row (fun g => W1.heap.size ≤ g) 99 5 v13 (d ++ d2).length ((d ++ d2).map encD).flatten w13) := by have h := HR13.out; rw [List.length_map, ← List.map_append] at h; rw [List.length_append]; exact h
    refine hK _ _ (fun _ => HCS.out w13 HB13.out) ?_
    clear hK K HR13 HGR13 HR12 HDE
    obtain ⟨oz, cz, rfl, hdz⟩ := HR14.out.rdats
    have HDZ := Lib.hid hdz
    clear hdz
    refine oneH 9 (by rfl) (by kernel_rfl) (fun K hK => ?_)
    gi_wp2_with fail
    refine hK _ _ (fun _ => HCS.out w13 HB13.out) ?_
    clear hK K
    refine doneH (by kernel_rfl) ?_
    gi_wp2_with fail
    go_ret
    refine ⟨oz, cz, d ++ d2, by rw [List.length_append]; rfl, HDZ.out, ?_, below5 HB1.out HB13.out⟩
    have e1 : plE (d ++ d2) = plE d ++ plE d2 := by simp [plE]
    rw [e1, HPP.out, HPE.out]
    rfl
end Go.Proofs.YtneghhbclefmoaaGreat
end
section
namespace Go.Proofs.YtneghhbclefmoaaGreat
open Go.RowKit Go.Shelf Go.Sort
set_option maxRecDepth 100000

set_option maxHeartbeats 1000000 in
theorem is5_any {w w0 : World} (v u : Value) (k k' : List (El w)) (hb0 : Below w.heap.size w w0) (hv : RecsRd v (k.map (·.1)) w0) (hu : RecsRd u (k'.map (·.1)) w0) (he : plE k = plE k') (nk : k.length ≤ 1000) :
    Calls Tryz.prog 16 #[v, u] w0 (TrE w0) := by
  have hlen : k'.length = k.length := by have := congrArg List.length he; rw [plE_len, plE_len] at this; exact this.symm
  obtain ⟨ov, cv, rfl⟩ : ∃ o cap, v = .slice o k.length cap := by obtain ⟨_, o, cap, h, _⟩ := hv; exact ⟨o, cap, by rw [h, List.length_map]⟩
  obtain ⟨ou, cu, rfl⟩ : ∃ o cap, u = .slice o k'.length cap := by obtain ⟨_, o, cap, h, _⟩ := hu; exact ⟨o, cap, by rw [h, List.length_map]⟩
  have HV := Lib.hid hv.el
  have HU := Lib.hid hu.el
  have HB0 := Lib.hid hb0
  have HE := Lib.hid he
  have HLN := Lib.hid hlen
  rw [hlen]
  have lz : (k.length : Int) ≤ 1000 := by omega
  clear hv hu hb0 he hlen
  refine (callsIn_wide (n := 0)).1 ?_
  refine callsIn_of_wp Tryz.func16 rfl trivial ?_ rfl
  simp only [Tryz.ntmps16, List.size_toArray, List.length_cons, List.length_nil, Nat.reduceAdd, Nat.reduceSub, Array.replicate_succ, Array.replicate_zero, List.push_toArray, List.append_toArray, List.nil_append, List.cons_append]
  gi_wp2_with fail
  gi_loopw [5] (fun vi W => ∃ i : Nat, i ≤ k.length ∧ vi = .int .i64 i ∧ Below w0.heap.size w0 W) (fun vi _ => k.length - (intOf vi).toNat)
  case atStart => exact ⟨0, Nat.zero_le _, rfl, Below.refl _ _⟩
  case round =>
    obtain ⟨i, hi, rfl, hb⟩ := hrel
    have HB := Lib.hid hb
    by_cases hlt : i < k.length
    · have hlz : (i : Int) < (k.length : Int) := by omega
      have hlt' : i < k'.length := by rw [HLN.out]; exact hlt
      obtain ⟨x, hx⟩ : ∃ x, k[i] = x := ⟨_, rfl⟩
      obtain ⟨y, hy⟩ : ∃ y, k'[i] = y := ⟨_, rfl⟩
      have hxy : x.1.2 = y.1.2 := by
        have h1 : (plE k)[i]? = (plE k')[i]? := by rw [HE.out]
        rw [plE, plE, List.getElem?_map, List.getElem?_map, List.getElem?_eq_getElem hlt, List.getElem?_eq_getElem hlt', hx, hy] at h1
        exact Option.some.inj h1
      obtain ⟨p0, n0, q0, p1, n1, q1, p2, n2, q2, p3, n3, q3, p4, n4, q4, ex⟩ := x.cells
      obtain ⟨r0, m0, t0, r1, m1, t1, r2, m2, t2, r3, m3, t3, r4, m4, t4, ey⟩ := y.cells
      have hxr : RecRd [.slice p0 n0 q0, .int .u32 (x.1.2.ttl : Int), .int .i64 x.1.2.type, .slice p1 n1 q1, .slice p2 n2 q2, .slice p3 n3 q3, .slice p4 n4 q4] x.1.2 w := by have h := x.2.1; rw [show x.1.1 = _ from ex] at h; exact h
      have hyr : RecRd [.slice r0 m0 t0, .int .u32 (y.1.2.ttl : Int), .int .i64 y.1.2.type, .slice r1 m1 t1, .slice r2 m2 t2, .slice r3 m3 t3, .slice r4 m4 t4] y.1.2 w := by have h := y.2.1; rw [show y.1.1 = _ from ey] at h; exact h
      obtain ⟨ga, rfl, _⟩ := HV.out _ hb i hlt _ _ _ _ _ _ _ (by rw [hx]; exact ex)
      obtain ⟨gb, rfl, _⟩ := HU.out _ hb i hlt' _ _ _ _ _ _ _ (by rw [hy]; exact ey)
      obtain ⟨ea, hea⟩ : ∃ e, ga.add (i * 7) = e := ⟨_, rfl⟩
      obtain ⟨eb, heb⟩ : ∃ e, gb.add (i * 7) = e := ⟨_, rfl⟩
      have HCS : Hid (∀ W', Below w0.heap.size w0 W' → Cs [(ea, Value.slice p0 n0 q0), (⟨ea.block, ea.off + 1, none⟩, .int .u32 (x.1.2.ttl : Int)), (⟨ea.block, ea.off + 2, none⟩, .int .i64 x.1.2.type), (⟨ea.block, ea.off + 3, none⟩, .slice p1 n1 q1), (⟨ea.block, ea.off + 4, none⟩, .slice p2 n2 q2), (⟨ea.block, ea.off + 5, none⟩, .slice p3 n3 q3), (⟨ea.block, ea.off + 6, none⟩, .slice p4 n4 q4), (eb, .slice r0 m0 t0), (⟨eb.block, eb.off + 1, none⟩, .int .u32 (x.1.2.ttl : Int)), (⟨eb.block, eb.off + 2, none⟩, .int .i64 x.1.2.type), (⟨eb.block, eb.off + 3, none⟩, .slice r1 m1 t1), (⟨eb.block, eb.off + 4, none⟩, .slice r2 m2 t2), (⟨eb.block, eb.off + 5, none⟩, .slice r3 m3 t3), (⟨eb.block, eb.off + 6, none⟩, .slice r4 m4 t4)] W') := fun W' hW => by
        obtain ⟨a, ha, c0, c1, c2, c3, c4, c5, c6⟩ := HV.out _ hW i hlt _ _ _ _ _ _ _ (by rw [hx]; exact ex)
        obtain ⟨b, hb, d0, d1, d2, d3, d4, d5, d6⟩ := HU.out _ hW i hlt' _ _ _ _ _ _ _ (by rw [hy]; exact ey)
        cases ha; cases hb
        rw [hea] at c0 c1 c2 c3 c4 c5 c6
        rw [heb] at d0 d1 d2 d3 d4 d5 d6
        rw [← hxy] at d1 d2
        exact ⟨c0, c1, c2, c3, c4, c5, c6, d0, d1, d2, d3, d4, d5, d6, trivial⟩
      have HIS : Hid (∀ W', Below w0.heap.size w0 W' → Calls Tryz.prog 15 #[.slice p0 n0 q0, .slice r0 m0 t0] W' (Gives (.bool true) W')) := fun W' hW => by
        obtain ⟨vo, ds, h1, h2, _⟩ := hxr
        obtain ⟨vo', ds', h1', h2', _⟩ := hyr
        cases h1; cases h1'
        rw [← hxy] at h2'
        have := isLen_any _ _ _ _ W' (h2.below (below5 HB0.out hW)) (h2'.below (below5 HB0.out hW)) x.2.2.owner.1 x.2.2.owner.1
        rw [beq_self_eq_true] at this; exact this
      have HID : Hid (∀ W', Below w0.heap.size w0 W' → Calls Tryz.prog 51 #[.agg #[.int .i64 x.1.2.type, .slice p1 n1 q1, .slice p2 n2 q2, .slice p3 n3 q3, .slice p4 n4 q4], .agg #[.int .i64 x.1.2.type, .slice r1 m1 t1, .slice r2 m2 t2, .slice r3 m3 t3, .slice r4 m4 t4]] W' (TrE W')) := fun W' hW => by
        obtain ⟨vo, ds, h1, _, h3⟩ := hxr
        obtain ⟨vo', ds', h1', _, h3'⟩ := hyr
        cases h1; cases h1'
        rw [← hxy] at h3'
        exact lawIs_any [.int .i64 x.1.2.type, .slice p1 n1 q1, .slice p2 n2 q2, .slice p3 n3 q3, .slice p4 n4 q4] [.int .i64 x.1.2.type, .slice r1 m1 t1, .slice r2 m2 t2, .slice r3 m3 t3, .slice r4 m4 t4] x.1.2 W' (h3.below (below5 HB0.out hW)) (h3'.below (below5 HB0.out hW)) x.2.2
      obtain ⟨nt, hnt⟩ : ∃ nt, x.1.2.ttl = nt := ⟨_, rfl⟩
      obtain ⟨ny, hny⟩ : ∃ ny, x.1.2.type = ny := ⟨_, rfl⟩
      rw [hnt, hny] at HCS
      rw [hny] at HID
      clear hb hx hy ex ey hxr hyr hxy hnt hny
      gi_wp2_with fail
      refine drawnH (List.range 39) (Cs [(ea, Value.slice p0 n0 q0), (⟨ea.block, ea.off + 1, none⟩, .int .u32 (nt : Int)), (⟨ea.block, ea.off + 2, none⟩, .int .i64 ny), (⟨ea.block, ea.off + 3, none⟩, .slice p1 n1 q1), (⟨ea.block, ea.off + 4, none⟩, .slice p2 n2 q2), (⟨ea.block, ea.off + 5, none⟩, .slice p3 n3 q3), (⟨ea.block, ea.off + 6, none⟩, .slice p4 n4 q4), (eb, .slice r0 m0 t0), (⟨eb.block, eb.off + 1, none⟩, .int .u32 (nt : Int)), (⟨eb.block, eb.off + 2, none⟩, .int .i64 ny), (⟨eb.block, eb.off + 3, none⟩, .slice r1 m1 t1), (⟨eb.block, eb.off + 4, none⟩, .slice r2 m2 t2), (⟨eb.block, eb.off + 5, none⟩, .slice r3 m3 t3), (⟨eb.block, eb.off + 6, none⟩, .slice r4 m4 t4)]) 39 rfl (by kernel_rfl) ?_
      intro wa hwa
      have HWA : Hid (Below w0.heap.size w0 wa) := by subst hwa; exact HB.out.drew
      have hS := HCS.out wa HWA.out
      clear hwa
      refine takeH 0 (v := ?qav0) (fun _ => trivial) (by rfl) (by kernel_rfl) hS (.inl ⟨by kernel_rfl, fun w1 ⟨x0, x1, x2, x3, x4, x5, x6, y0, y1, y2, y3, y4, y5, y6, _⟩ => ?qay0⟩) ?_
      case qay0 => (go_simp; try first | rfl | (rw [if_pos (by omega)]) | (rw [if_neg (by omega)]) | (rw [if_neg (by simp; omega)]) | (split <;> first | (exfalso; omega) | rfl))
      refine takeH 1 (v := ?qav1) (fun _ => trivial) (by rfl) (by kernel_rfl) hS (.inl ⟨by kernel_rfl, fun w1 ⟨x0, x1, x2, x3, x4, x5, x6, y0, y1, y2, y3, y4, y5, y6, _⟩ => ?qay1⟩) ?_
      case qay1 => (go_simp; try first | rfl | (rw [if_pos (by omega)]) | (rw [if_neg (by omega)]) | (rw [if_neg (by simp; omega)]) | (split <;> first | (exfalso; omega) | rfl))
      refine takeH 2 (v := ?qav2) (fun _ => trivial) (by rfl) (by kernel_rfl) hS (.inl ⟨by kernel_rfl, fun w1 ⟨x0, x1, x2, x3, x4, x5, x6, y0, y1, y2, y3, y4, y5, y6, _⟩ => ?qay2⟩) ?_
      case qay2 => (go_simp; try first | rfl | (rw [if_pos (by omega)]) | (rw [if_neg (by omega)]) | (rw [if_neg (by simp; omega)]) | (split <;> first | (exfalso; omega) | rfl))
      refine takeH 3 (v := ?qav3) (fun _ => trivial) (by rfl) (by kernel_rfl) hS (.inl ⟨by kernel_rfl, fun w1 ⟨x0, x1, x2, x3, x4, x5, x6, y0, y1, y2, y3, y4, y5, y6, _⟩ => ?qay3⟩) ?_
      case qay3 => (go_simp; try first | rfl | (rw [if_pos (by omega)]) | (rw [if_neg (by omega)]) | (rw [if_neg (by simp; omega)]) | (split <;> first | (exfalso; omega) | rfl))
      refine takeH 4 (v := ?qav4) (fun _ => trivial) (by rfl) (by kernel_rfl) hS (.inl ⟨by kernel_rfl, fun w1 ⟨x0, x1, x2, x3, x4, x5, x6, y0, y1, y2, y3, y4, y5, y6, _⟩ => ?qay4⟩) ?_
      case qay4 => (go_simp; try first | rfl | (rw [if_pos (by omega)]) | (rw [if_neg (by omega)]) | (rw [if_neg (by simp; omega)]) | (split <;> first | (exfalso; omega) | rfl))
      refine takeH 5 (v := ?qav5) (fun _ => trivial) (by rfl) (by kernel_rfl) hS (.inl ⟨by kernel_rfl, fun w1 ⟨x0, x1, x2, x3, x4, x5, x6, y0, y1, y2, y3, y4, y5, y6, _⟩ => ?qay5⟩) ?_
      case qay5 => (go_simp; try first | rfl | (rw [if_pos (by omega)]) | (rw [if_neg (by omega)]) | (rw [if_neg (by simp; omega)]) | (split <;> first | (exfalso; omega) | rfl))
      refine takeH 6 (v := ?qav6) (fun _ => trivial) (by rfl) (by kernel_rfl) hS (.inl ⟨by kernel_rfl, fun w1 ⟨x0, x1, x2, x3, x4, x5, x6, y0, y1, y2, y3, y4, y5, y6, _⟩ => ?qay6⟩) ?_
      case qay6 => (go_simp; try first | rfl | (rw [if_pos (by omega)]) | (rw [if_neg (by omega)]) | (rw [if_neg (by simp; omega)]) | (split <;> first | (exfalso; omega) | rfl))
      refine takeH 7 (v := ?qav7) (fun _ => trivial) (by rfl) (by kernel_rfl) hS (.inl ⟨by kernel_rfl, fun w1 ⟨x0, x1, x2, x3, x4, x5, x6, y0, y1, y2, y3, y4, y5, y6, _⟩ => ?qay7⟩) ?_
      case qay7 => (go_simp; try first | rfl | (rw [if_pos (by omega)]) | (rw [if_neg (by omega)]) | (rw [if_neg (by simp; omega)]) | (split <;> first | (exfalso; omega) | rfl))
      refine takeH 8 (v := ?qav8) (fun _ => trivial) (by rfl) (by kernel_rfl) hS (.inl ⟨by kernel_rfl, fun w1 ⟨x0, x1, x2, x3, x4, x5, x6, y0, y1, y2, y3, y4, y5, y6, _⟩ => ?qay8⟩) ?_
      case qay8 => (go_simp; try first | rfl | (rw [if_pos (by omega)]) | (rw [if_neg (by omega)]) | (rw [if_neg (by simp; omega)]) | (split <;> first | (exfalso; omega) | rfl))
      refine takeH 9 (v := ?qav9) (fun _ => trivial) (by rfl) (by kernel_rfl) hS (.inl ⟨by kernel_rfl, fun w1 ⟨x0, x1, x2, x3, x4, x5, x6, y0, y1, y2, y3, y4, y5, y6, _⟩ => ?qay9⟩) ?_
      case qay9 => (go_simp; try first | rfl | (rw [if_pos (by omega)]) | (rw [if_neg (by omega)]) | (rw [if_neg (by simp; omega)]) | (split <;> first | (exfalso; omega) | rfl))
      simp only [Act.put, List.setIfInBounds_toArray, List.set_cons_succ, List.set_cons_zero]
      refine oneH 10 (by rfl) (by kernel_rfl) (fun K hK => ?_)
      gi_wp2_with (gi_at_call 15; refine (callsIn_wide.2 (HIS.out wa HWA.out)).mono ?_; rintro e9 wb ⟨rfl, b9⟩)
      have HWB := Lib.hid (below5 HWA.out b9)
      replace hS := HCS.out wb HWB.out
      refine hK _ _ (fun _ => hS) ?_
      clear hK K b9
      refine takeH 11 (v := ?qbv11) (fun _ => trivial) (by rfl) (by kernel_rfl) hS (.inl ⟨by kernel_rfl, fun w1 ⟨x0, x1, x2, x3, x4, x5, x6, y0, y1, y2, y3, y4, y5, y6, _⟩ => ?qby11⟩) ?_
      case qby11 => (go_simp; try first | rfl | (rw [if_pos (by omega)]) | (rw [if_neg (by omega)]) | (rw [if_neg (by simp; omega)]) | (split <;> first | (exfalso; omega) | rfl))
      refine takeH 12 (v := ?qbv12) (fun _ => trivial) (by rfl) (by kernel_rfl) hS (.inl ⟨by kernel_rfl, fun w1 ⟨x0, x1, x2, x3, x4, x5, x6, y0, y1, y2, y3, y4, y5, y6, _⟩ => ?qby12⟩) ?_
      case qby12 => (go_simp; try first | rfl | (rw [if_pos (by omega)]) | (rw [if_neg (by omega)]) | (rw [if_neg (by simp; omega)]) | (split <;> first | (exfalso; omega) | rfl))
      refine takeH 13 (v := ?qbv13) (fun _ => trivial) (by rfl) (by kernel_rfl) hS (.inl ⟨by kernel_rfl, fun w1 ⟨x0, x1, x2, x3, x4, x5, x6, y0, y1, y2, y3, y4, y5, y6, _⟩ => ?qby13⟩) ?_
      case qby13 => (go_simp; try first | rfl | (rw [if_pos (by omega)]) | (rw [if_neg (by omega)]) | (rw [if_neg (by simp; omega)]) | (split <;> first | (exfalso; omega) | rfl))
      refine takeH 14 (v := ?qbv14) (fun _ => trivial) (by rfl) (by kernel_rfl) hS (.inl ⟨by kernel_rfl, fun w1 ⟨x0, x1, x2, x3, x4, x5, x6, y0, y1, y2, y3, y4, y5, y6, _⟩ => ?qby14⟩) ?_
      case qby14 => (go_simp; try first | rfl | (rw [if_pos (by omega)]) | (rw [if_neg (by omega)]) | (rw [if_neg (by simp; omega)]) | (split <;> first | (exfalso; omega) | rfl))
      refine takeH 15 (v := ?qbv15) (fun _ => trivial) (by rfl) (by kernel_rfl) hS (.inl ⟨by kernel_rfl, fun w1 ⟨x0, x1, x2, x3, x4, x5, x6, y0, y1, y2, y3, y4, y5, y6, _⟩ => ?qby15⟩) ?_
      case qby15 => (go_simp; try first | rfl | (rw [if_pos (by omega)]) | (rw [if_neg (by omega)]) | (rw [if_neg (by simp; omega)]) | (split <;> first | (exfalso; omega) | rfl))
      refine takeH 16 (v := ?qbv16) (fun _ => trivial) (by rfl) (by kernel_rfl) hS (.inl ⟨by kernel_rfl, fun w1 ⟨x0, x1, x2, x3, x4, x5, x6, y0, y1, y2, y3, y4, y5, y6, _⟩ => ?qby16⟩) ?_
      case qby16 => (go_simp; try first | rfl | (rw [if_pos (by omega)]) | (rw [if_neg (by omega)]) | (rw [if_neg (by simp; omega)]) | (split <;> first | (exfalso; omega) | rfl))
      refine takeH 17 (v := ?qbv17) (fun _ => trivial) (by rfl) (by kernel_rfl) hS (.inl ⟨by kernel_rfl, fun w1 ⟨x0, x1, x2, x3, x4, x5, x6, y0, y1, y2, y3, y4, y5, y6, _⟩ => ?qby17⟩) ?_
      case qby17 => (go_simp; try first | rfl | (rw [if_pos (by omega)]) | (rw [if_neg (by omega)]) | (rw [if_neg (by simp; omega)]) | (split <;> first | (exfalso; omega) | rfl))
      refine takeH 18 (v := ?qbv18) (fun _ => trivial) (by rfl) (by kernel_rfl) hS (.inl ⟨by kernel_rfl, fun w1 ⟨x0, x1, x2, x3, x4, x5, x6, y0, y1, y2, y3, y4, y5, y6, _⟩ => ?qby18⟩) ?_
      case qby18 => (go_simp; try first | rfl | (rw [if_pos (by omega)]) | (rw [if_neg (by omega)]) | (rw [if_neg (by simp; omega)]) | (split <;> first | (exfalso; omega) | rfl))
      refine takeH 19 (v := ?qbv19) (fun _ => trivial) (by rfl) (by kernel_rfl) hS (.inl ⟨by kernel_rfl, fun w1 ⟨x0, x1, x2, x3, x4, x5, x6, y0, y1, y2, y3, y4, y5, y6, _⟩ => ?qby19⟩) ?_
      case qby19 => (go_simp; try first | rfl | (rw [if_pos (by omega)]) | (rw [if_neg (by omega)]) | (rw [if_neg (by simp; omega)]) | (split <;> first | (exfalso; omega) | rfl))
      refine takeH 20 (v := ?qbv20) (fun _ => trivial) (by rfl) (by kernel_rfl) hS (.inl ⟨by kernel_rfl, fun w1 ⟨x0, x1, x2, x3, x4, x5, x6, y0, y1, y2, y3, y4, y5, y6, _⟩ => ?qby20⟩) ?_
      case qby20 => (go_simp; try first | rfl | (rw [if_pos (by omega)]) | (rw [if_neg (by omega)]) | (rw [if_neg (by simp; omega)]) | (split <;> first | (exfalso; omega) | rfl))
      refine takeH 21 (v := ?qbv21) (fun _ => trivial) (by rfl) (by kernel_rfl) hS (.inl ⟨by kernel_rfl, fun w1 ⟨x0, x1, x2, x3, x4, x5, x6, y0, y1, y2, y3, y4, y5, y6, _⟩ => ?qby21⟩) ?_
      case qby21 => (go_simp; try first | rfl | (rw [if_pos (by omega)]) | (rw [if_neg (by omega)]) | (rw [if_neg (by simp; omega)]) | (split <;> first | (exfalso; omega) | rfl))
      refine takeH 22 (v := ?qbv22) (fun _ => trivial) (by rfl) (by kernel_rfl) hS (.inl ⟨by kernel_rfl, fun w1 ⟨x0, x1, x2, x3, x4, x5, x6, y0, y1, y2, y3, y4, y5, y6, _⟩ => ?qby22⟩) ?_
      case qby22 => (go_simp; try first | rfl | (rw [if_pos (by omega)]) | (rw [if_neg (by omega)]) | (rw [if_neg (by simp; omega)]) | (split <;> first | (exfalso; omega) | rfl))
      simp only [Act.put, List.setIfInBounds_toArray, List.set_cons_succ, List.set_cons_zero]
      refine takeH 23 (v := ?qbv23) (fun _ => trivial) (by rfl) (by kernel_rfl) hS (.inl ⟨by kernel_rfl, fun w1 ⟨x0, x1, x2, x3, x4, x5, x6, y0, y1, y2, y3, y4, y5, y6, _⟩ => ?qby23⟩) ?_
      case qby23 => (go_simp; try first | rfl | (rw [if_pos (by omega)]) | (rw [if_neg (by omega)]) | (rw [if_neg (by simp; omega)]) | (split <;> first | (exfalso; omega) | rfl))
      refine takeH 24 (v := ?qbv24) (fun _ => trivial) (by rfl) (by kernel_rfl) hS (.inl ⟨by kernel_rfl, fun w1 ⟨x0, x1, x2, x3, x4, x5, x6, y0, y1, y2, y3, y4, y5, y6, _⟩ => ?qby24⟩) ?_
      case qby24 => (go_simp; try first | rfl | (rw [if_pos (by omega)]) | (rw [if_neg (by omega)]) | (rw [if_neg (by simp; omega)]) | (split <;> first | (exfalso; omega) | rfl))
      refine takeH 25 (v := ?qbv25) (fun _ => trivial) (by rfl) (by kernel_rfl) hS (.inl ⟨by kernel_rfl, fun w1 ⟨x0, x1, x2, x3, x4, x5, x6, y0, y1, y2, y3, y4, y5, y6, _⟩ => ?qby25⟩) ?_
      case qby25 => (go_simp; try first | rfl | (rw [if_pos (by omega)]) | (rw [if_neg (by omega)]) | (rw [if_neg (by simp; omega)]) | (split <;> first | (exfalso; omega) | rfl))
      refine takeH 26 (v := ?qbv26) (fun _ => trivial) (by rfl) (by kernel_rfl) hS (.inl ⟨by kernel_rfl, fun w1 ⟨x0, x1, x2, x3, x4, x5, x6, y0, y1, y2, y3, y4, y5, y6, _⟩ => ?qby26⟩) ?_
      case qby26 => (go_simp; try first | rfl | (rw [if_pos (by omega)]) | (rw [if_neg (by omega)]) | (rw [if_neg (by simp; omega)]) | (split <;> first | (exfalso; omega) | rfl))
      refine takeH 27 (v := ?qbv27) (fun _ => trivial) (by rfl) (by kernel_rfl) hS (.inl ⟨by kernel_rfl, fun w1 ⟨x0, x1, x2, x3, x4, x5, x6, y0, y1, y2, y3, y4, y5, y6, _⟩ => ?qby27⟩) ?_
      case qby27 => (go_simp; try first | rfl | (rw [if_pos (by omega)]) | (rw [if_neg (by omega)]) | (rw [if_neg (by simp; omega)]) | (split <;> first | (exfalso; omega) | rfl))
      refine takeH 28 (v := ?qbv28) (fun _ => trivial) (by rfl) (by kernel_rfl) hS (.inl ⟨by kernel_rfl, fun w1 ⟨x0, x1, x2, x3, x4, x5, x6, y0, y1, y2, y3, y4, y5, y6, _⟩ => ?qby28⟩) ?_
      case qby28 => (go_simp; try first | rfl | (rw [if_pos (by omega)]) | (rw [if_neg (by omega)]) | (rw [if_neg (by simp; omega)]) | (split <;> first | (exfalso; omega) | rfl))
      refine takeH 29 (v := ?qbv29) (fun _ => trivial) (by rfl) (by kernel_rfl) hS (.inl ⟨by kernel_rfl, fun w1 ⟨x0, x1, x2, x3, x4, x5, x6, y0, y1, y2, y3, y4, y5, y6, _⟩ => ?qby29⟩) ?_
      case qby29 => (go_simp; try first | rfl | (rw [if_pos (by omega)]) | (rw [if_neg (by omega)]) | (rw [if_neg (by simp; omega)]) | (split <;> first | (exfalso; omega) | rfl))
      refine takeH 30 (v := ?qbv30) (fun _ => trivial) (by rfl) (by kernel_rfl) hS (.inl ⟨by kernel_rfl, fun w1 ⟨x0, x1, x2, x3, x4, x5, x6, y0, y1, y2, y3, y4, y5, y6, _⟩ => ?qby30⟩) ?_
      case qby30 => (go_simp; try first | rfl | (rw [if_pos (by omega)]) | (rw [if_neg (by omega)]) | (rw [if_neg (by simp; omega)]) | (split <;> first | (exfalso; omega) | rfl))
      refine takeH 31 (v := ?qbv31) (fun _ => trivial) (by rfl) (by kernel_rfl) hS (.inl ⟨by kernel_rfl, fun w1 ⟨x0, x1, x2, x3, x4, x5, x6, y0, y1, y2, y3, y4, y5, y6, _⟩ => ?qby31⟩) ?_
      case qby31 => (go_simp; try first | rfl | (rw [if_pos (by omega)]) | (rw [if_neg (by omega)]) | (rw [if_neg (by simp; omega)]) | (split <;> first | (exfalso; omega) | rfl))
      refine takeH 32 (v := ?qbv32) (fun _ => trivial) (by rfl) (by kernel_rfl) hS (.inl ⟨by kernel_rfl, fun w1 ⟨x0, x1, x2, x3, x4, x5, x6, y0, y1, y2, y3, y4, y5, y6, _⟩ => ?qby32⟩) ?_
      case qby32 => (go_simp; try first | rfl | (rw [if_pos (by omega)]) | (rw [if_neg (by omega)]) | (rw [if_neg (by simp; omega)]) | (split <;> first | (exfalso; omega) | rfl))
      refine takeH 33 (v := ?qbv33) (fun _ => trivial) (by rfl) (by kernel_rfl) hS (.inl ⟨by kernel_rfl, fun w1 ⟨x0, x1, x2, x3, x4, x5, x6, y0, y1, y2, y3, y4, y5, y6, _⟩ => ?qby33⟩) ?_
      case qby33 => (go_simp; try first | rfl | (rw [if_pos (by omega)]) | (rw [if_neg (by omega)]) | (rw [if_neg (by simp; omega)]) | (split <;> first | (exfalso; omega) | rfl))
      refine takeH 34 (v := ?qbv34) (fun _ => trivial) (by rfl) (by kernel_rfl) hS (.inl ⟨by kernel_rfl, fun w1 ⟨x0, x1, x2, x3, x4, x5, x6, y0, y1, y2, y3, y4, y5, y6, _⟩ => ?qby34⟩) ?_
      case qby34 => (go_simp; try first | rfl | (rw [if_pos (by omega)]) | (rw [if_neg (by omega)]) | (rw [if_neg (by simp; omega)]) | (split <;> first | (exfalso; omega) | rfl))
      refine takeH 35 (v := ?qbv35) (fun _ => trivial) (by rfl) (by kernel_rfl) hS (.inl ⟨by kernel_rfl, fun w1 ⟨x0, x1, x2, x3, x4, x5, x6, y0, y1, y2, y3, y4, y5, y6, _⟩ => ?qby35⟩) ?_
      case qby35 => (go_simp; try first | rfl | (rw [if_pos (by omega)]) | (rw [if_neg (by omega)]) | (rw [if_neg (by simp; omega)]) | (split <;> first | (exfalso; omega) | rfl))
      simp only [Act.put, List.setIfInBounds_toArray, List.set_cons_succ, List.set_cons_zero]
      refine oneH 36 (by rfl) (by kernel_rfl) (fun K hK => ?_)
      gi_wp2_with (gi_at_call 51; refine (callsIn_wide.2 (HID.out wb HWB.out)).mono ?_; rintro e9 wc ⟨rfl, b9⟩)
      have HWC := Lib.hid (below5 HWB.out b9)
      replace hS := HCS.out wc HWC.out
      refine hK _ _ (fun _ => hS) ?_
      clear hK K b9
      refine takeH 37 (v := ?qcv37) (fun _ => trivial) (by rfl) (by kernel_rfl) hS (.inl ⟨by kernel_rfl, fun w1 ⟨x0, x1, x2, x3, x4, x5, x6, y0, y1, y2, y3, y4, y5, y6, _⟩ => ?qcy37⟩) ?_
      case qcy37 => (go_simp; try first | rfl | (rw [if_pos (by omega)]) | (rw [if_neg (by omega)]) | (rw [if_neg (by simp; omega)]) | (split <;> first | (exfalso; omega) | rfl))
      refine takeH 38 (v := ?qcv38) (fun _ => trivial) (by rfl) (by kernel_rfl) hS (.inl ⟨by kernel_rfl, fun w1 ⟨x0, x1, x2, x3, x4, x5, x6, y0, y1, y2, y3, y4, y5, y6, _⟩ => ?qcy38⟩) ?_
      case qcy38 => (go_simp; try first | rfl | (rw [if_pos (by omega)]) | (rw [if_neg (by omega)]) | (rw [if_neg (by simp; omega)]) | (split <;> first | (exfalso; omega) | rfl))
      simp only [Act.put, List.setIfInBounds_toArray, List.set_cons_succ, List.set_cons_zero]
      refine doneH (by kernel_rfl) ?_
      clear hS
      gi_wp2_with fail
      exact ⟨⟨i + 1, hlt, by go_num, HWC.out⟩, by simp [intOf] <;> omega⟩
    · have hlz : ¬ ((i : Int) < (k.length : Int)) := by omega
      clear hb
      gi_wp2_with fail
      go_ret
      exact ⟨rfl, HB.out⟩
end Go.Proofs.YtneghhbclefmoaaGreat
end
