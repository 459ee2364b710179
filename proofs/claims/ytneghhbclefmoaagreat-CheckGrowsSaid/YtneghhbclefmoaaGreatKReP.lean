/- Zones: the document's ways to what encloses, to the cut (plain). -/
import Derived.Test.YtneghhbclefmoaaGreatKZnL
import Derived.Test.YtneghhbclefmoaaGreatKZnE
import Derived.Test.YtneghhbclefmoaaGreatKSgG
import Derived.Test.YtneghhbclefmoaaGreatKReg
import Derived.Test.YtneghhbclefmoaaGreatKRcL
import Derived.Test.YtneghhbclefmoaaGreatKZnI
import Derived.Test.YtneghhbclefmoaaGreatKZnO
section
namespace Go.Proofs.YtneghhbclefmoaaGreat
open Go.RowKit Go.Shelf Go.Sort
set_option maxRecDepth 100000
namespace Zn
open Rc
theorem cutAt_ref {o : Nam} {L : List PRec} {n : Nam} (h : Nm.under n o = true) : cutAt o L n = cutF o.length L n (n.length - o.length) := by
 have hl := Nm.under_le' h
 unfold cutAt
 rw [if_pos h, cutF_short (by simp; omega)]
theorem cutF_go {ol : Nat} {L : List PRec} {n : Nam} {k : Nat} (_h1 : k + ol < n.length) (h2 : has L (n.drop k) 2 = false) : cutF ol L n (k + 1) = cutF ol L n k := by
 rw [cutF, if_neg]
 rw [h2, Bool.and_false]; exact Bool.false_ne_true
end Zn
end Go.Proofs.YtneghhbclefmoaaGreat
end
section
namespace Go.Proofs.YtneghhbclefmoaaGreat
open Go.RowKit Go.Shelf Go.Sort
set_option maxRecDepth 100000
theorem any_no {α : Type} {p : α -> Bool} {l : List α} (h : ∀ j (hj : j < l.length), p l[j] = false) : l.any p = false := by
 rw [List.any_eq_false]
 intro x hx
 obtain ⟨j, hj, rfl⟩ := List.mem_iff_getElem.1 hx
 rw [h j hj]; exact Bool.false_ne_true
theorem any_at {α : Type} {p : α -> Bool} {l : List α} (j : Nat) (hj : j < l.length) (h : p l[j] = true) : l.any p = true := List.any_eq_true.2 ⟨_, List.getElem_mem hj, h⟩
theorem zBox {w0 W1 : World} {zo vr : Value} (h : w0.alloc (.cells #[zo, vr] 33) = W1) : Below w0.heap.size w0 W1 /\ Blk w0.heap.size #[zo, vr] 33 W1 := by
 subst h
 exact ⟨(Below.refl _ _).alloc (Nat.le_refl _) _, Blk.new w0 _ _⟩
set_option maxHeartbeats 1000000 in
theorem rHas_any {w w0 : World} (po : Option Addr) (no qo : Nat) (vr vn : Value) (l : List (El w)) (n : List (List UInt8)) (t : Int) (hb0 : Below w.heap.size w w0) (hv : RecsRd vr (l.map (·.1)) w0) (na : l.length <= 1000) (hn : Rd vn n w0) (nn : NB n) :
  Calls Tryz.prog 57 #[.agg #[.slice po no qo, vr], vn, .int .i64 t] w0 (Gives (.bool (Zn.has (plE l) n t)) w0) := by
 obtain ⟨on, cn, rfl, _, _⟩ := hn.form
 obtain ⟨ov, cv, rfl⟩ : ∃ o cap, vr = .slice o l.length cap := by obtain ⟨_, o, cap, h, _⟩ := hv; exact ⟨o, cap, by rw [h, List.length_map]⟩
 obtain ⟨W1, hW1⟩ : ∃ W1, w0.alloc (.cells #[.slice po no qo, .slice ov l.length cv] 33) = W1 := ⟨_, rfl⟩
 obtain ⟨hb1, hbk⟩ := zBox hW1
 have HW1 := Lib.hid hW1
 have HB1 := Lib.hid hb1
 have HBK := Lib.hid hbk
 have HV := Lib.hid hv.el
 have HB0 := Lib.hid hb0
 have HN := Lib.hid hn
 have NN := Lib.hid nn
 have lz : (l.length : Int) <= 1000 := by omega
 clear hv hb0 hn nn hW1 hb1 hbk
 refine (callsIn_wide (n := 0)).1 ?_
 refine callsIn_of_wp Tryz.func57 rfl trivial ?_ rfl
 simp only [Tryz.ntmps57, List.size_toArray, List.length_cons, List.length_nil, Nat.reduceAdd, Nat.reduceSub, Array.replicate_succ, Array.replicate_zero, List.push_toArray, List.append_toArray, List.nil_append, List.cons_append]
 gi_wp2_with fail
 rw [HW1.out]
 clear HW1
 gi_loopw [7] (fun vi W => ∃ i : Nat, i <= l.length /\ vi = .int .i64 i /\ Hid (∀ j (hj : j < (plE l).length), j < i -> (((plE l)[j].type == t) && Nm.same (plE l)[j].owner n) = false) /\ Below W1.heap.size W1 W) (fun vi _ => l.length - (intOf vi).toNat)
 case atStart => exact ⟨0, Nat.zero_le _, rfl, fun j _ h => by omega, Below.refl _ _⟩
 case round =>
  obtain ⟨i, hi, rfl, HF, hb⟩ := hrel
  have z1 : wr.cell? ⟨w0.heap.size, 1, none⟩ = some (.slice ov l.length cv) := (HBK.out.below hb).cell 1
  by_cases hlt : i < l.length
  ·have hiz : (i : Int) < (l.length : Int) := by omega
   obtain ⟨x, hx⟩ : ∃ x, l[i] = x := ⟨_, rfl⟩
   obtain ⟨p0, n0, q0, p1, n1, q1, p2, n2, q2, p3, n3, q3, p4, n4, q4, ex⟩ := x.cells
   obtain ⟨ga, rfl, e0, e1, e2, e3, e4, e5, e6⟩ := HV.out _ (below5 HB1.out hb) i hlt _ _ _ _ _ _ _ (by rw [hx]; exact ex)
   obtain ⟨ea, hea⟩ : ∃ q, ga.add (i * 7) = q := ⟨_, rfl⟩
   rw [hea] at e0 e1 e2 e3 e4 e5 e6
   have hro : Rd (.slice p0 n0 q0) x.1.2.owner w := by
    have h := x.2.1
    rw [show x.1.1 = _ from ex] at h
    obtain ⟨vo, ds, h1, h2, _⟩ := h
    cases h1; exact h2
   have hpx : ∀ h : i < (plE l).length, (plE l)[i] = x.1.2 := fun h => by rw [plE_get, hx]
   have HSM := Lib.hid (refSame_any _ _ x.1.2.owner n wr (hro.below (below5 HB0.out (below5 HB1.out hb))) (HN.out.below (below5 HB1.out hb)) x.2.2.owner NN.out)
   obtain ⟨z, hz⟩ : ∃ z, Nm.same x.1.2.owner n = z := ⟨_, rfl⟩
   obtain ⟨b, hbt⟩ : ∃ b, (x.1.2.type == t) = b := ⟨_, rfl⟩
   rw [hz] at HSM
   have HPX := Lib.hid hpx
   have HZ := Lib.hid hz
   have HBT := Lib.hid hbt
   have HB := Lib.hid hb
   have HNX : Hid ((b && z) = false -> ∀ j (hj : j < (plE l).length), j < i + 1 -> (((plE l)[j].type == t) && Nm.same (plE l)[j].owner n) = false) := fun hbz j hj hji => by
    by_cases hjl : j < i
    ·exact HF.out j hj hjl
    ·obtain rfl : j = i := by omega
     rw [HPX.out hj, HZ.out, HBT.out]; exact hbz
   clear hx ex hro hpx hz hb
   cases b with
   | false =>
    gi_wp2_with fail
    exact ⟨⟨i + 1, hlt, by go_num, HNX.out rfl, HB.out⟩, by simp [intOf] <;> omega⟩
   | true =>
    gi_wp2_with fail
    refine (callsIn_wide.2 HSM.out).mono ?_
    rintro e9 wd ⟨rfl, b9⟩
    have HBD := Lib.hid (below5 HB.out b9)
    clear b9 e0 e1 e2 e3 e4 e5 e6 z1 HSM
    cases z with
    | false =>
     gi_wp2_with fail
     exact ⟨⟨i + 1, hlt, by go_num, HNX.out rfl, HBD.out⟩, by simp [intOf] <;> omega⟩
    | true =>
     gi_wp2_with fail
     go_ret
     have hpl : i < (plE l).length := by rw [plE_len]; exact hlt
     have hh : Zn.has (plE l) n t = true := any_at i hpl (by rw [HPX.out hpl, HZ.out, HBT.out]; rfl)
     rw [hh]
     exact ⟨rfl, below5 HB1.out HBD.out⟩
  ·have hiz : ¬ ((i : Int) < (l.length : Int)) := by omega
   have HB := Lib.hid hb
   clear hb
   gi_wp2_with fail
   go_ret
   have hh : Zn.has (plE l) n t = false := any_no fun j hj => HF.out j hj (by rw [plE_len] at hj; omega)
   rw [hh]
   exact ⟨rfl, below5 HB1.out HB.out⟩
def RCutR (o : Zn.Nam) (L : List Rc.PRec) (n : Zn.Nam) (w : World) (e : Ending) (w' : World) : Prop :=
 ∃ v, e = .returned (.tuple #[v, .bool (Zn.isCut o L n)]) /\ Rd v (Zn.cut o L n) w' /\ Below w.heap.size w w'
set_option maxHeartbeats 1000000 in
theorem rCutOf_any {w w0 : World} (vo vr vn : Value) (l : List (El w)) (o n : List (List UInt8)) (hb0 : Below w.heap.size w w0) (hv : RecsRd vr (l.map (·.1)) w0) (na : l.length <= 1000) (ho : Rd vo o w0) (no : NB o) (hn : Rd vn n w0) (nn : NB n) :
  Calls Tryz.prog 18 #[.agg #[vo, vr], vn] w0 (RCutR o (plE l) n w0) := by
 obtain ⟨on, cn, rfl, _, _⟩ := hn.form
 obtain ⟨oo, co, rfl, _, _⟩ := ho.form
 obtain ⟨ov, cv, rfl⟩ : ∃ o cap, vr = .slice o l.length cap := by obtain ⟨_, o, cap, h, _⟩ := hv; exact ⟨o, cap, by rw [h, List.length_map]⟩
 obtain ⟨W1, hW1⟩ : ∃ W1, w0.alloc (.cells #[.slice oo o.length co, .slice ov l.length cv] 33) = W1 := ⟨_, rfl⟩
 obtain ⟨hb1, hbk⟩ := zBox hW1
 have HB1 := Lib.hid hb1
 have HBK := Lib.hid hbk
 have HN := Lib.hid hn
 have HO := Lib.hid ho
 have HHAS : Hid (∀ W', Below W1.heap.size W1 W' -> ∀ (v : Value) (m : List (List UInt8)), Rd v m W' -> NB m -> Calls Tryz.prog 57 #[.agg #[.slice oo o.length co, .slice ov l.length cv], v, .int .i64 2] W' (Gives (.bool (Zn.has (plE l) m 2)) W')) := fun W' hW v m hm nm =>
  rHas_any oo o.length co _ v l m 2 (below5 hb0 (below5 hb1 hW)) (hv.kept (below5 hb1 hW)) na hm nm
 have HU := Lib.hid (refUnder_any _ _ n o W1 (hn.below hb1) (ho.below hb1) nn no)
 obtain ⟨u, hu⟩ : ∃ u, Nm.under n o = u := ⟨_, rfl⟩
 rw [hu] at HU
 have HUU := Lib.hid hu
 have NN := Lib.hid nn
 have ln : n.length <= 1000 := nn.1
 have lo : o.length <= 1000 := no.1
 have z0 : W1.cell? ⟨w0.heap.size, 0, none⟩ = some (.slice oo o.length co) := hbk.cell 0
 clear hv hb0 hn nn hb1 hbk ho no hu na
 refine (callsIn_wide (n := 0)).1 ?_
 refine callsIn_of_wp Tryz.func18 rfl trivial ?_ rfl
 simp only [Tryz.ntmps18, List.size_toArray, List.length_cons, List.length_nil, Nat.reduceAdd, Nat.reduceSub, Array.replicate_succ, Array.replicate_zero, List.push_toArray, List.append_toArray, List.nil_append, List.cons_append]
 gi_wp2_with fail
 refine (callsIn_wide.2 HU.out).mono ?_
 rintro e9 wd ⟨rfl, b9⟩
 have HBD := Lib.hid b9
 have z1 : wd.cell? ⟨w0.heap.size, 0, none⟩ = some (.slice oo o.length co) := (HBK.out.below b9).cell 0
 clear z0 b9 HU hW1
 cases u with
 | false =>
  gi_wp2_with fail
  go_ret2
  have hn' : Zn.cutAt o (plE l) n = none := by unfold Zn.cutAt; rw [if_neg (by rw [HUU.out]; exact Bool.false_ne_true)]
  obtain ⟨q1, q2⟩ := Zn.cut_none hn'
  exact ⟨.slice none 0 0, by first | (rw [q1]; done) | (rw [q1]; rfl), by rw [q2]; exact Rd.nil _, below5 HB1.out HBD.out⟩
 | true =>
  have hle := Nm.under_le' HUU.out
  have hlez : (o.length : Int) <= (n.length : Int) := by omega
  have HCA := Lib.hid (Zn.cutAt_ref (L := plE l) HUU.out)
  gi_wp2_with fail
  clear z1
  gi_loopw [6] (fun vi W => ∃ i : Nat, i <= n.length - o.length /\ vi = .int .i64 ((i : Int) - 1) /\ Hid (Zn.cutAt o (plE l) n = Zn.cutF o.length (plE l) n i) /\ Below W1.heap.size W1 W) (fun vi _ => (intOf vi + 1).toNat)
  case atStart => exact ⟨n.length - o.length, Nat.le_refl _, by go_num, HCA.out, HBD.out⟩
  case round =>
   obtain ⟨i, hi, rfl, HF, hb⟩ := hrel
   have z0 : wr.cell? ⟨w0.heap.size, 0, none⟩ = some (.slice oo o.length co) := (HBK.out.below hb).cell 0
   have z1 : wr.cell? ⟨w0.heap.size, 1, none⟩ = some (.slice ov l.length cv) := (HBK.out.below hb).cell 1
   cases i with
   | zero =>
    have HB := Lib.hid hb
    clear hb z0 z1
    gi_wp2_with fail
    go_ret2
    obtain ⟨q1, q2⟩ := Zn.cut_none (show Zn.cutAt o (plE l) n = none by rw [HF.out]; rfl)
    exact ⟨.slice none 0 0, by first | (rw [q1]; done) | (rw [q1]; rfl), by rw [q2]; exact Rd.nil _, below5 HB1.out HB.out⟩
   | succ k =>
    have hkz : (0 : Int) <= (k : Int) := by omega
    have hkn : k <= n.length := by omega
    have hkz2 : (k : Int) <= (n.length : Int) := by omega
    have e1 : ((k + 1 : Nat) : Int) - 1 = (k : Int) := by omega
    rw [e1]
    have hcn : n.length <= cn := by obtain ⟨_, _, e, h1, _⟩ := HN.out; cases e; exact h1
    have hck : ¬ (cn = k) := by omega
    have hkl : k + o.length < n.length := by omega
    have hrd := (HN.out.below (below5 HB1.out hb)).tail k hkn
    have hnd : NB (n.drop k) := NN.out.drop k
    obtain ⟨z, hz⟩ : ∃ z, Zn.has (plE l) (n.drop k) 2 = z := ⟨_, rfl⟩
    have HHK : Hid (∀ W', Below W1.heap.size W1 W' -> Calls Tryz.prog 57 #[.agg #[.slice oo o.length co, .slice ov l.length cv], .slice (on.map (·.add k)) (n.length - k) (cn - k), .int .i64 2] W' (Gives (.bool z) W')) := fun W' hW => by
     have h := HHAS.out W' hW _ (n.drop k) ((HN.out.below (below5 HB1.out hW)).tail k hkn) hnd
     rw [hz] at h; exact h
    have HCS : Hid (∀ W', Below W1.heap.size W1 W' -> Cs [(⟨w0.heap.size, 0, none⟩, .slice oo o.length co), (⟨w0.heap.size, 1, none⟩, .slice ov l.length cv)] W') := fun W' hW => ⟨(HBK.out.below hW).cell 0, (HBK.out.below hW).cell 1, trivial⟩
    have HRD := Lib.hid hrd
    have HZ := Lib.hid hz
    have HB := Lib.hid hb
    have HKL := Lib.hid hkl
    clear hb e1 hrd hnd hz z0 z1 hkl
    gi_wp2_with fail
    refine drawnH [0] (Cs [(⟨w0.heap.size, 0, none⟩, .slice oo o.length co), (⟨w0.heap.size, 1, none⟩, .slice ov l.length cv)]) 5 rfl (by kernel_rfl) ?_
    intro wa hwa
    have HBA : Hid (Below W1.heap.size W1 wa) := by subst hwa; exact HB.out.drew
    have hS := HCS.out wa HBA.out
    clear hwa
    refine tP 1 ?qav1 (fun w1 _ => ?qay1) ?_
    case qay1 => go_simp; try rfl
    refine tP 2 ?qav2 (fun w1 _ => ?qay2) ?_
    case qay2 => go_simp; try rfl
    refine tP 3 ?qav3 (fun w1 _ => ?qay3) ?_
    case qay3 => go_simp; try rfl
    simp only [Act.put, List.setIfInBounds_toArray, List.set_cons_succ, List.set_cons_zero]
    refine tH 0 ?qav0 hS (fun w1 ⟨x0, x1, _⟩ => ?qay0) ?_
    case qay0 => go_simp; try rfl
    simp only [Act.put, List.setIfInBounds_toArray, List.set_cons_succ, List.set_cons_zero]
    refine oneH 4 (by rfl) (by kernel_rfl) (fun K hK => ?_)
    gi_wp2_with (gi_at_call 57; refine (callsIn_wide.2 (HHK.out wa HBA.out)).mono ?_; rintro e9 wb ⟨rfl, b9⟩)
    have HBB := Lib.hid (below5 HBA.out b9)
    refine hK _ _ (fun h => absurd h (by decide)) ?_
    clear hK K b9 hS
    refine doneH (by kernel_rfl) ?_
    cases z with
    | true =>
     gi_wp2_with fail
     go_ret2
     obtain ⟨q1, q2⟩ := Zn.cut_some (show Zn.cutAt o (plE l) n = some k by rw [HF.out]; exact Zn.cutF_hit (by simp; have := HKL.out; omega) HZ.out)
     exact ⟨.slice (on.map (·.add k)) (n.length - k) (cn - k), by first | (rw [q1]; done) | (rw [q1]; rfl), by rw [q2]; exact (HN.out.below (below5 HB1.out HBB.out)).tail k hkn, below5 HB1.out HBB.out⟩
    | false =>
     gi_wp2_with fail
     exact ⟨⟨k, by omega, by go_num, by rw [HF.out]; exact Zn.cutF_go HKL.out HZ.out, HBB.out⟩, by simp [intOf] <;> omega⟩
set_option maxHeartbeats 1000000 in
theorem rWhere_any {w w0 : World} (vo vr vn : Value) (l : List (El w)) (o n : List (List UInt8)) (hb0 : Below w.heap.size w w0) (hv : RecsRd vr (l.map (·.1)) w0) (na : l.length <= 1000) (ho : Rd vo o w0) (no : NB o) (hn : Rd vn n w0) (nn : NB n) :
  Calls Tryz.prog 22 #[.agg #[vo, vr], vn] w0 (Gives (.int .i64 (Zn.wher o (plE l) n)) w0) := by
 obtain ⟨on, cn, rfl, _, _⟩ := hn.form
 obtain ⟨oo, co, rfl, _, _⟩ := ho.form
 obtain ⟨ov, cv, rfl⟩ : ∃ o cap, vr = .slice o l.length cap := by obtain ⟨_, o, cap, h, _⟩ := hv; exact ⟨o, cap, by rw [h, List.length_map]⟩
 obtain ⟨W1, hW1⟩ : ∃ W1, w0.alloc (.cells #[.slice oo o.length co, .slice ov l.length cv] 33) = W1 := ⟨_, rfl⟩
 obtain ⟨hb1, hbk⟩ := zBox hW1
 have HB1 := Lib.hid hb1
 have HBK := Lib.hid hbk
 have HU := Lib.hid (refUnder_any _ _ n o W1 (hn.below hb1) (ho.below hb1) nn no)
 have HC : Hid (∀ W', Below W1.heap.size W1 W' -> Calls Tryz.prog 18 #[.agg #[.slice oo o.length co, .slice ov l.length cv], .slice on n.length cn] W' (RCutR o (plE l) n W')) := fun W' hW =>
  rCutOf_any _ _ _ l o n (below5 hb0 (below5 hb1 hW)) (hv.kept (below5 hb1 hW)) na (ho.below (below5 hb1 hW)) no (hn.below (below5 hb1 hW)) nn
 obtain ⟨u, hu⟩ : ∃ u, Nm.under n o = u := ⟨_, rfl⟩
 rw [hu] at HU
 have HUU := Lib.hid hu
 have ln : n.length <= 1000 := nn.1
 have z0 : W1.cell? ⟨w0.heap.size, 0, none⟩ = some (.slice oo o.length co) := hbk.cell 0
 clear hv hb0 hn nn hb1 hbk ho no hu na
 refine (callsIn_wide (n := 0)).1 ?_
 refine callsIn_of_wp Tryz.func22 rfl trivial ?_ rfl
 simp only [Tryz.ntmps22, List.size_toArray, List.length_cons, List.length_nil, Nat.reduceAdd, Nat.reduceSub, Array.replicate_succ, Array.replicate_zero, List.push_toArray, List.append_toArray, List.nil_append, List.cons_append]
 gi_wp2_with fail
 refine (callsIn_wide.2 HU.out).mono ?_
 rintro e9 wd ⟨rfl, b9⟩
 have HBD := Lib.hid b9
 have z1 : wd.cell? ⟨w0.heap.size, 0, none⟩ = some (.slice oo o.length co) := (HBK.out.below b9).cell 0
 have z2 : wd.cell? ⟨w0.heap.size, 1, none⟩ = some (.slice ov l.length cv) := (HBK.out.below b9).cell 1
 clear z0 b9 HU hW1
 cases u with
 | false =>
  gi_wp2_with fail
  go_ret
  have hn' : Zn.wher o (plE l) n = 0 := by unfold Zn.wher; rw [if_neg (by rw [HUU.out]; exact Bool.false_ne_true)]
  rw [hn']
  exact ⟨rfl, below5 HB1.out HBD.out⟩
 | true =>
  gi_wp2_with fail
  refine (callsIn_wide.2 (HC.out wd HBD.out)).mono ?_
  rintro e9 we ⟨v, rfl, hr, b9⟩
  obtain ⟨oc, cc, rfl, _, _⟩ := hr.form
  have HBE := Lib.hid (below5 HBD.out b9)
  clear b9 z1 z2 hr HC
  cases hca : Zn.cutAt o (plE l) n with
  | none =>
   obtain ⟨q1, q2⟩ := Zn.cut_none hca
   rw [q1, q2]
   have hw : Zn.wher o (plE l) n = 1 := Zn.wher_none HUU.out hca
   have HW := Lib.hid hw
   clear hw hca q1 q2
   gi_wp2_with fail
   go_ret
   exact ⟨by rw [HW.out]; rfl, below5 HB1.out HBE.out⟩
  | some k =>
   obtain ⟨q1, q2⟩ := Zn.cut_some hca
   obtain ⟨c, hc⟩ : ∃ c, Zn.cut o (plE l) n = c := ⟨_, rfl⟩
   have hcl : c.length <= n.length := by rw [<- hc, q2]; simp
   have hw : Zn.wher o (plE l) n = if c.length = n.length then 2 else 3 := by
    rw [<- hc, q2]
    unfold Zn.wher
    rw [if_pos HUU.out, hca]
   rw [q1, hc]
   have HW := Lib.hid hw
   have hclz : (c.length : Int) <= 1000 := by omega
   have hnlz : (n.length : Int) <= 1000 := by omega
   clear hw hca q1 q2 hc
   by_cases he : c.length = n.length
   ·have hez : (c.length : Int) = (n.length : Int) := by omega
    have HE := Lib.hid he
    clear he
    gi_wp2_with fail
    go_ret
    exact ⟨by rw [HW.out, if_pos HE.out]; rfl, below5 HB1.out HBE.out⟩
   ·have hez : ¬ ((c.length : Int) = (n.length : Int)) := by omega
    have HE := Lib.hid he
    clear he
    gi_wp2_with fail
    go_ret
    exact ⟨by rw [HW.out, if_neg HE.out]; rfl, below5 HB1.out HBE.out⟩
end Go.Proofs.YtneghhbclefmoaaGreat
end
section
namespace Go.Proofs.YtneghhbclefmoaaGreat
open Go.RowKit Go.Shelf Go.Sort
set_option maxRecDepth 100000
end Go.Proofs.YtneghhbclefmoaaGreat
end
section
namespace Go.Proofs.YtneghhbclefmoaaGreat
open Go.RowKit Go.Shelf Go.Sort
set_option maxRecDepth 100000
namespace Rc
theorem put_last {x : PRec} : ∀ {L : List PRec}, (∀ y ∈ L, cmp y x < 0) -> put x L = L ++ [x]
 | [], _ => rfl
 | y :: L, h => by
  have h0 := h y List.mem_cons_self
  show (if cmp y x < 0 then y :: put x L else _) = _
  rw [if_pos h0, put_last (fun z hz => h z (List.mem_cons_of_mem _ hz))]; rfl
theorem refCanon_self (l : List PRec) (h : Strict l) : refCanon l = l := by
 suffices H : ∀ n (l : List PRec), l.length = n -> Strict l -> refCanon l = l from H _ l rfl h
 intro n
 induction n with
 | zero => intro l hl _; obtain rfl := List.length_eq_zero_iff.1 hl; rfl
 | succ n ih =>
  intro l hl hs
  obtain ⟨l', x, rfl⟩ : ∃ l' x, l = l' ++ [x] := by
   rcases List.eq_nil_or_concat l with h | ⟨l', x, h⟩
   ·rw [h] at hl; simp at hl
   ·exact ⟨l', x, by rw [h, List.concat_eq_append]⟩
  have hs' := List.pairwise_append.1 hs
  rw [refCanon_snoc, ih l' (by simpa using hl) hs'.1, put_last (fun y hy => hs'.2.2 y hy x (by simp))]
theorem canon_twice (l : List PRec) : canon (canon l) = canon l := by
 have h := (canon_of l).strict
 rw [canon_eq (canon l)]
 exact refCanon_self _ h
end Rc
end Go.Proofs.YtneghhbclefmoaaGreat
end
section
namespace Go.Proofs.YtneghhbclefmoaaGreat
open Go.RowKit Go.Shelf Go.Sort
set_option maxRecDepth 100000
theorem rof_dat {w : World} {c : List (El w)} {l : List Rc.PRec} {o : List (List UInt8)} {t : Int} {v : Value} {ok : Bool} {W : World} (h : plE c = Rc.canon l) (hc : c.length <= 1000) (hr : ROfV (grp c) o t v ok W) :
  ∃ (pa : Option Addr) (pn pc : Nat) (ty : Int) (tt : Nat) (od : Option Addr) (cd : Nat) (d : List (El w)), v = .agg #[.slice pa pn pc, .int .i64 ty, .int .u32 (tt : Int), .slice od d.length cd] /\ DatsRd (.slice od d.length cd) d W /\ plE d = Rs.datOf (Rs.mine l o t) /\ d.length <= 1000 /\ ∀ x ∈ d, x ∈ c := by
 obtain ⟨h1, h2⟩ := Rs.mine_find l o t
 have h3 := find_map o t (grp c)
 rw [plE_grp, h] at h3
 rw [h3] at h1 h2
 unfold ROfV at hr
 cases hk : (grp c).find? (hasKey o t) with
 | none =>
  rw [hk] at hr h1
  obtain ⟨rfl, rfl⟩ := hr
  exact ⟨none, 0, 0, 0, 0, none, 0, [], rfl, DatsRd.nil W, by rw [h1]; rfl, by simp, fun x hx => by cases hx⟩
 | some k =>
  rw [hk] at hr h1 h2
  obtain ⟨cs, rfl, ⟨x, xs, po, no, qo, od, cd, rfl, rfl, e3, e4⟩, rfl⟩ := hr
  have hm : x :: xs ∈ grp c := List.mem_of_find?_eq_some hk
  have hb := grp_mem_bound hm
  refine ⟨po, no, qo, _, _, od, cd, x :: xs, rfl, e4, ?_, by omega, fun y hy => mem_grp hm hy⟩
  obtain ⟨y, ys, f1, f2⟩ := h2 _ rfl
  rw [h1]
  show plE (x :: xs) = Rs.datOf (plE (x :: xs))
  rw [f1] at f2 ⊢
  show y :: ys = List.take (Rs.run y (y :: ys)) (y :: ys)
  rw [f2, List.take_length]
def RDatR {w : World} (l : List (El w)) (n : List (List UInt8)) (t : Int) (w0 : World) (e : Ending) (w' : World) : Prop :=
 ∃ (od : Option Addr) (cd : Nat) (d : List (El w)), e = .returned (.slice od d.length cd) /\ DatsRd (.slice od d.length cd) d w' /\ plE d = Rs.datOf (Rs.mine (plE l) n t) /\ d.length <= 1000 /\ Below w0.heap.size w0 w'
set_option maxHeartbeats 1000000 in
theorem rDatas_any {w w0 : World} (po : Option Addr) (no qo : Nat) (vr vn : Value) (l : List (El w)) (n : List (List UInt8)) (t : Int) (hb0 : Below w.heap.size w w0) (hv : RecsRd vr (l.map (·.1)) w0) (na : l.length <= 1000) (hn : Rd vn n w0) (nn : NB n) :
  Calls Tryz.prog 68 #[.agg #[.slice po no qo, vr], vn, .int .i64 t] w0 (RDatR l n t w0) := by
 obtain ⟨on, cn, rfl, _, _⟩ := hn.form
 obtain ⟨ov, cv, rfl⟩ : ∃ o cap, vr = .slice o l.length cap := by obtain ⟨_, o, cap, h, _⟩ := hv; exact ⟨o, cap, by rw [h, List.length_map]⟩
 obtain ⟨W1, hW1⟩ : ∃ W1, w0.alloc (.cells #[.slice po no qo, .slice ov l.length cv] 33) = W1 := ⟨_, rfl⟩
 obtain ⟨hb1, hbk⟩ := zBox hW1
 have HB1 := Lib.hid hb1
 have HOF := Lib.hid (refOf_any (w0 := W1) _ _ l n t (below5 hb0 hb1) (hv.kept hb1) na (hn.below hb1) nn)
 have z1 : W1.cell? ⟨w0.heap.size, 1, none⟩ = some (.slice ov l.length cv) := hbk.cell 1
 clear hv hb0 hn nn hb1 hbk
 refine (callsIn_wide (n := 0)).1 ?_
 refine callsIn_of_wp Tryz.func68 rfl trivial ?_ rfl
 simp only [Tryz.ntmps68, List.size_toArray, List.length_cons, List.length_nil, Nat.reduceAdd, Nat.reduceSub, Array.replicate_succ, Array.replicate_zero, List.push_toArray, List.append_toArray, List.nil_append, List.cons_append]
 gi_wp2_with fail
 refine (callsIn_wide.2 HOF.out).mono ?_
 rintro e9 wd ⟨c, v, ok, hc, hcl, rfl, hrv, b9⟩
 obtain ⟨pa, pn, pc, ty, tt, od, cd, d, rfl, hd, hp, hdl, _⟩ := rof_dat hc (by omega) hrv
 have HD := Lib.hid hd
 have HP := Lib.hid hp
 have HBD := Lib.hid b9
 clear z1 b9 hd hp hrv HOF hW1
 gi_wp2_with fail
 go_ret
 exact ⟨od, cd, d, rfl, HD.out.below ((Below.refl _ _).alloc (Nat.le_refl _) _), HP.out, hdl, (below5 HB1.out HBD.out).alloc (below5 HB1.out HBD.out).size _⟩
def RGluR {w : World} (l : List (El w)) (n : List (List UInt8)) (w0 : World) (e : Ending) (w' : World) : Prop :=
 ∃ (od : Option Addr) (cd : Nat) (d : List (El w)), e = .returned (.slice od d.length cd) /\ DatsRd (.slice od d.length cd) d w' /\ plE d = Zn.glueT (plE l) n 2 /\ Below w0.heap.size w0 w'
end Go.Proofs.YtneghhbclefmoaaGreat
end
section
namespace Go.Proofs.YtneghhbclefmoaaGreat
open Go.RowKit Go.Shelf Go.Sort
set_option maxRecDepth 100000
end Go.Proofs.YtneghhbclefmoaaGreat
end
section
namespace Go.Proofs.YtneghhbclefmoaaGreat
open Go.RowKit Go.Shelf Go.Sort
set_option maxRecDepth 100000
theorem RecsRd.offSet {w : World} {o : Option Addr} {n cap : Nat} {l : List (El w)} {W : World} (h : RecsRd (.slice o n cap) (l.map (·.1)) W) {b : Nat} {c0 c1 : Value} {t : TypeId} (hk : Blk b #[c0, c1] t W) (i : Nat) (u : Value) (hb : Below w.heap.size w (W.setCell ⟨b, i, none⟩ u)) :
  RecsRd (.slice o n cap) (l.map (·.1)) (W.setCell ⟨b, i, none⟩ u) := by
 by_cases hl : l = []
 ·subst hl
  obtain ⟨_, o2, c2, e1, e2, e3, e4, e5⟩ := h
  cases e1
  exact ⟨fun x hx => (by cases hx), o, cap, rfl, e2, e3, e4, fun j hj => (by simp [encP] at hj)⟩
 ·refine h.set' (fun a ha e => ?_) u hb
  obtain ⟨hx, o2, c2, e1, e2, e3, e4, e5⟩ := h
  cases e1
  have h7 : (encP (l.map (·.1))).length = (l.map (·.1)).length * 7 := encP_len (fun x hx' => (hx x hx').len)
  have hpos : 0 < l.length := List.length_pos_iff.2 hl
  obtain ⟨a', ha', hc⟩ := e5 6 (by rw [h7, List.length_map]; omega)
  rw [ha] at ha'; cases ha'
  have : (a.add 6) = ⟨b, a.off + 6, none⟩ := by subst e; rfl
  rw [this, hk.cell] at hc
  simp at hc
def RNewR {w : World} (l : List (El w)) (oo : Option Addr) (on oc : Nat) (w0 : World) (e : Ending) (w' : World) : Prop :=
 ∃ (c : List (El w)) (v' : Value), plE c = Rc.canon (plE l) /\ c.length <= l.length /\ e = .returned (.agg #[.slice oo on oc, v']) /\ RecsRd v' (c.map (·.1)) w' /\ Below w0.heap.size w0 w'
set_option maxHeartbeats 1000000 in
theorem rNew_any {w w0 : World} (oo : Option Addr) (on oc : Nat) (v : Value) (l : List (El w)) (hb0 : Below w.heap.size w w0) (hv : RecsRd v (l.map (·.1)) w0) (na : l.length <= 1000) :
  Calls Tryz.prog 13 #[.slice oo on oc, v] w0 (RNewR l oo on oc w0) := by
 obtain ⟨ov, cv, rfl⟩ : ∃ o cap, v = .slice o l.length cap := by obtain ⟨_, o, cap, h, _⟩ := hv; exact ⟨o, cap, by rw [h, List.length_map]⟩
 obtain ⟨W1, hW1⟩ : ∃ W1, w0.alloc (.cells #[.slice none 0 0, .slice none 0 0] 33) = W1 := ⟨_, rfl⟩
 obtain ⟨hb1, hbk⟩ := zBox hW1
 have HB0 := Lib.hid hb0
 have HB1 := Lib.hid hb1
 have HBK := Lib.hid hbk
 have HC := Lib.hid (refCanon_any (w0 := W1) _ l (below5 hb0 hb1) (hv.kept hb1) na)
 clear hv hb0 hb1 hbk na
 refine (callsIn_wide (n := 0)).1 ?_
 refine callsIn_of_wp Tryz.func13 rfl trivial ?_ rfl
 simp only [Tryz.ntmps13, List.size_toArray, List.length_cons, List.length_nil, Nat.reduceAdd, Nat.reduceSub, Array.replicate_succ, Array.replicate_zero, List.push_toArray, List.append_toArray, List.nil_append, List.cons_append]
 gi_wp2_with fail
 refine (callsIn_wide.2 HC.out).mono ?_
 rintro e9 w1 ⟨c, v', hp, hl, rfl, hr, b9⟩
 obtain ⟨o', c', rfl⟩ : ∃ o cap, v' = .slice o c.length cap := by obtain ⟨_, o, cap, h, _⟩ := hr; exact ⟨o, cap, by rw [h, List.length_map]⟩
 have HBD := Lib.hid (below5 HB1.out b9)
 have HKD := Lib.hid (HBK.out.below b9)
 have HR := Lib.hid hr
 have HP := Lib.hid hp
 have k0 : w1.cell? ⟨w0.heap.size, 0, none⟩ = some _ := HKD.out.cell 0
 have k1 : w1.cell? ⟨w0.heap.size, 1, none⟩ = some _ := HKD.out.cell 1
 have y0 := HKD.out.frozen 0
 have y1 := HKD.out.frozen 1
 clear hp hr b9 HC hW1
 gi_wp2_with fail
 obtain ⟨W5, hW5⟩ : ∃ W, (w1.setCell ⟨w0.heap.size, 0, none⟩ (.slice oo on oc)).setCell ⟨w0.heap.size, 1, none⟩ (.slice o' c.length c') = W := ⟨_, rfl⟩
 have hbl5 : Blk w0.heap.size #[.slice oo on oc, .slice o' c.length c'] 33 W5 := by subst hW5; exact (HKD.out.setAt 0 _).setAt 1 _
 have hba : Below w0.heap.size w0 (w1.setCell ⟨w0.heap.size, 0, none⟩ (.slice oo on oc)) := HBD.out.setCell (p := ⟨w0.heap.size, 0, none⟩) (Nat.le_refl _) _
 have hb5' : Below w0.heap.size w0 ((w1.setCell ⟨w0.heap.size, 0, none⟩ (.slice oo on oc)).setCell ⟨w0.heap.size, 1, none⟩ (.slice o' c.length c')) := hba.setCell (p := ⟨w0.heap.size, 1, none⟩) (Nat.le_refl _) _
 have hr5 : RecsRd (.slice o' c.length c') (c.map (·.1)) W5 := by
  rw [<- hW5]
  exact (HR.out.offSet HKD.out 0 _ (below5 HB0.out hba)).offSet (HKD.out.setAt 0 _) 1 _ (below5 HB0.out hb5')
 have hb5 : Below w0.heap.size w0 W5 := by rw [<- hW5]; exact hb5'
 have HR5 := Lib.hid hr5
 have HB5 := Lib.hid hb5
 have b0 : W5.cell? ⟨w0.heap.size, 0, none⟩ = some _ := hbl5.cell 0
 have b1 : W5.cell? ⟨w0.heap.size, 1, none⟩ = some _ := hbl5.cell 1
 rw [hW5]
 clear hbl5 hb5 hb5' hba hr5 hW5 k0 k1 y0 y1
 refine bodyPost_ret (v := .agg #[.slice oo on oc, .slice o' c.length c']) (by simp at b0 b1; simp [results, Tryz.results13, go_sem, b0, b1]) rfl ?_
 exact ⟨c, _, HP.out, hl, rfl, HR5.out, HB5.out⟩
namespace Rc
end Rc
def TrZ (w : World) (e : Ending) (w' : World) : Prop := e = .returned (.bool true) /\ Below w.heap.size w w'
end Go.Proofs.YtneghhbclefmoaaGreat
end
