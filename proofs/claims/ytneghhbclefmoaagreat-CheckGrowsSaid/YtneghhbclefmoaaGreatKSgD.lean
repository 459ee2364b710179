/- The document's Canon: the walk. -/
import Derived.Test.YtneghhbclefmoaaGreatKCdA
import Derived.Test.YtneghhbclefmoaaGreatKZnO
import Derived.Test.YtneghhbclefmoaaGreatKReg
import Derived.Test.YtneghhbclefmoaaGreatKSfA
section
namespace Go.Proofs.YtneghhbclefmoaaGreat
open Go.RowKit Go.Shelf Go.Sort
set_option maxRecDepth 100000
theorem finQ {G : Prop} {A B C D E : Type} (F : A -> B -> C -> D -> E -> Prop) (Q : A -> B -> C -> D -> E -> Prop) (h1 : (∀ a b c d e, F a b c d e -> Q a b c d e) -> G) (h2 : ∀ a b c d e, F a b c d e -> Q a b c d e) : G := h1 h2
namespace Rc
theorem put_cons (x y : PRec) (L : List PRec) : put x (y :: L) = if cmp y x < 0 then y :: put x L else if cmp y x = 0 then (if x.ttl < y.ttl then { y with ttl := x.ttl } else y) :: L else x :: y :: L := rfl
theorem put_split (x : PRec) : ∀ (L : List PRec) (k : Nat), k <= L.length -> (∀ j (h : j < L.length), j < k -> cmp L[j] x < 0) -> put x L = L.take k ++ put x (L.drop k)
 | _, 0, _, _ => rfl
 | [], k + 1, h, _ => by simp at h
 | y :: L, k + 1, h, hc => by
  have h0 : cmp y x < 0 := hc 0 (by simp) (by omega)
  have ih := put_split x L k (by simpa using h) (fun j hj hjk => hc (j + 1) (by simpa using hj) (by omega))
  rw [put_cons, if_pos h0, ih]; rfl
end Rc
theorem flat_set {w : World} (os : List (El w)) (k : Nat) (hk : k < os.length) (y : El w) (c : Nat) (u : Value) (hc : c < 7) (he : encE y = (encE os[k]).set c u) : (os.flatMap encE).set (k * 7 + c) u = (os.set k y).flatMap encE := by
 refine List.ext_getElem? fun j => ?_
 by_cases hj : j < os.length * 7
 ·have q1 : j / 7 < os.length := by omega
  have q2 : j % 7 < 7 := Nat.mod_lt _ (by omega)
  have e1 := flat7 os (j / 7) q1 (j % 7) q2
  have e2 := flat7 (os.set k y) (j / 7) (by simpa using q1) (j % 7) q2
  rw [show j / 7 * 7 + j % 7 = j by omega] at e1 e2
  rw [e2, List.getElem?_set]
  by_cases hjk : k * 7 + c = j
  ·have hkk : j / 7 = k := by omega
   have hcc : j % 7 = c := by omega
   rw [if_pos hjk, if_pos (by rw [flat_len encE 7 encE_len]; omega)]
   simp only [hkk, hcc, List.getElem_set_self, he]
   rw [List.getElem?_set, if_pos rfl, if_pos (by rw [encE_len]; exact hc)]
  ·rw [if_neg hjk, e1]
   by_cases hkk : k = j / 7
   ·subst hkk
    rw [List.getElem_set_self, he, List.getElem?_set, if_neg (by omega)]
   ·rw [List.getElem_set_ne hkk]
 ·rw [List.getElem?_eq_none (by rw [List.length_set, flat_len encE 7 encE_len]; omega), List.getElem?_eq_none (by rw [flat_len encE 7 encE_len, List.length_set]; omega)]
theorem RecsRd.grd {w : World} {v : Value} {l : List (El w)} {W : World} (h : RecsRd v (l.map (·.1)) W) : GRd 7 v (l.map encE) W := by
 obtain ⟨h0, o, cap, h1, h2, h3, h4, h5⟩ := h
 rw [List.length_map] at h1 h2
 refine ⟨o, cap, by rw [List.length_map]; exact h1, by rw [List.length_map]; exact h2, h3, h4, fun y hy => ?_, fun i hi c hc => ?_⟩
 ·obtain ⟨x, _, rfl⟩ := List.mem_map.1 hy
  exact ⟨encE_len x, x.2.1.one⟩
 ·rw [List.length_map] at hi
  rw [encP_map] at h5
  have hl : i * 7 + c < (l.flatMap encE).length := by rw [flat_len encE 7 encE_len]; omega
  obtain ⟨a, ha, e⟩ := h5 _ hl
  refine ⟨a, ha, ?_⟩
  rw [e, <- List.getElem?_eq_getElem hl, flat7 l i hi c hc, List.getElem_map]
theorem joinE_cells {w : World} (y x : El w) {y0 y2 y3 y4 y5 y6 x0 x2 x3 x4 x5 x6 : Value} (ey : encE y = [y0, .int .u32 (y.1.2.ttl : Int), y2, y3, y4, y5, y6]) (ex : encE x = [x0, .int .u32 (x.1.2.ttl : Int), x2, x3, x4, x5, x6]) (h : x.1.2.ttl < y.1.2.ttl) : encE (joinE y x) = (encE y).set 1 (.int .u32 (x.1.2.ttl : Int)) := by
 have : encE (joinE y x) = jC (encE y) (encE x) := rfl
 rw [this, ey, ex]
 simp only [jC]
 rw [show min (y.1.2.ttl : Int) x.1.2.ttl = x.1.2.ttl by omega]; rfl
theorem GRd.grown75 {k : Nat} {b : Nat} {n c : Nat} {xs : List (List Value)} {W W' : World} {row : Option Nat} (h : GRd k (.slice (some ⟨b, 0, none⟩) n c) xs W) (hg : W.grownBy W' row) (hr : ∀ g, row = some g -> g ≠ b) : GRd k (.slice (some ⟨b, 0, none⟩) n c) xs W' := by
 obtain ⟨o, cap, h1, h2, h3, h4, h5, h6⟩ := h
 cases h1
 refine ⟨_, _, rfl, h2, h3, h4, h5, fun i hi c hc => ?_⟩
 obtain ⟨a, ha, e⟩ := h6 i hi c hc
 refine ⟨a, ha, ?_⟩
 cases ha
 have hl : c < xs[i].length := by rw [(h5 _ (List.getElem_mem hi)).1]; exact hc
 rw [List.getElem?_eq_getElem hl] at e ⊢
 have hlt := cell_lt e
 rw [World.cell?_of_block (hg.block _ hlt (fun e' => hr _ e'.symm (by rw [add_block])))]
 exact e
def RCanR {w : World} (l : List (El w)) (w0 : World) (e : Ending) (w' : World) : Prop :=
 ∃ (c : List (El w)) (v' : Value), plE c = Rc.canon (plE l) /\ c.length <= l.length /\ e = .returned v' /\ RecsRd v' (c.map (·.1)) w' /\ Below w0.heap.size w0 w'
set_option maxHeartbeats 8000000 in
theorem refCanon_any {w w0 : World} (v : Value) (l : List (El w)) (hb0 : Below w.heap.size w w0) (hv : RecsRd v (l.map (·.1)) w0) (na : l.length <= 1000) :
  Calls Tryz.prog 49 #[v] w0 (RCanR l w0) := by
 obtain ⟨ov, cv, rfl⟩ : ∃ o cap, v = .slice o l.length cap := by obtain ⟨_, o, cap, h, _⟩ := hv; exact ⟨o, cap, by rw [h, List.length_map]⟩
 have HV := Lib.hid hv.el
 have HB0 := Lib.hid hb0
 have lz : (l.length : Int) <= 1000 := by omega
 clear hv hb0
 refine (callsIn_wide (n := 0)).1 ?_
 refine callsIn_of_wp Tryz.func49 rfl trivial ?_ rfl
 simp only [Tryz.ntmps49, List.size_toArray, List.length_cons, List.length_nil, Nat.reduceAdd, Nat.reduceSub, Array.replicate_succ, Array.replicate_zero, List.push_toArray, List.append_toArray, List.nil_append, List.cons_append]
 gi_wp2_with fail
 gi_loopw [3, 4] (fun vx vi W => ∃ (i : Nat) (os : List (El w)), i <= l.length /\ vi = .int .i64 i /\ os.length <= i /\ Hid (plE os = Rc.refCanon (plE (l.take i))) /\ Below w0.heap.size w0 W /\ Row (fun g => w0.heap.size <= g) 101 7 vx os.length (os.flatMap encE) W) (fun _ vi _ => l.length - (intOf vi).toNat)
 case atStart => exact ⟨0, [], Nat.zero_le _, rfl, Nat.le_refl _, rfl, Below.refl _ _, Row.nil _ _ _ _⟩
 case round =>
  obtain ⟨i, os, hi, rfl, hos, HI, hb, hrow⟩ := hrel
  by_cases hlt : i < l.length
  case neg =>
   have hlz : ¬ ((i : Int) < (l.length : Int)) := by omega
   obtain rfl : i = l.length := by omega
   have HB := Lib.hid hb
   have HR := Lib.hid hrow
   clear hb hrow
   gi_wp2_with fail
   go_ret
   have h1 := HI.out
   rw [List.take_length, <- Rc.canon_eq] at h1
   refine ⟨os, _, h1, hos, rfl, recsRd_of (Row.grd (e := 101) (R := fun g => w0.heap.size <= g) ?_ (fun c hc => ?_)) (fun x hx => ?_), HB.out⟩
   ·rw [List.length_map, List.length_map, List.map_map]; exact HR.out
   ·rw [List.map_map] at hc
    obtain ⟨x, _, rfl⟩ := List.mem_map.1 hc
    exact ⟨encE_len x, x.2.1.one⟩
   ·obtain ⟨y, _, rfl⟩ := List.mem_map.1 hx
    exact y.2.1.below (below5 HB0.out HB.out)
  case pos =>
  have hlz : (i : Int) < (l.length : Int) := by omega
  obtain ⟨x, hx⟩ : ∃ x, l[i] = x := ⟨_, rfl⟩
  obtain ⟨p0, n0, q0, p1, n1, q1, p2, n2, q2, p3, n3, q3, p4, n4, q4, ex⟩ := x.cells
  have HCE : Hid (∀ W', Below w0.heap.size w0 W' -> ∃ a, ov = some a /\ W'.cell? (a.add (i * 7)) = some (.slice p0 n0 q0) /\ W'.cell? ⟨(a.add (i * 7)).block, (a.add (i * 7)).off + 1, none⟩ = some (.int .u32 (x.1.2.ttl : Int)) /\ W'.cell? ⟨(a.add (i * 7)).block, (a.add (i * 7)).off + 2, none⟩ = some (.int .i64 x.1.2.type) /\ W'.cell? ⟨(a.add (i * 7)).block, (a.add (i * 7)).off + 3, none⟩ = some (.slice p1 n1 q1) /\ W'.cell? ⟨(a.add (i * 7)).block, (a.add (i * 7)).off + 4, none⟩ = some (.slice p2 n2 q2) /\ W'.cell? ⟨(a.add (i * 7)).block, (a.add (i * 7)).off + 5, none⟩ = some (.slice p3 n3 q3) /\ W'.cell? ⟨(a.add (i * 7)).block, (a.add (i * 7)).off + 6, none⟩ = some (.slice p4 n4 q4)) := fun W' hW => HV.out W' hW i hlt _ _ _ _ _ _ _ (by rw [hx]; exact ex)
  obtain ⟨ga, rfl, _⟩ := HCE.out _ hb
  obtain ⟨e, he⟩ : ∃ e, ga.add (i * 7) = e := ⟨_, rfl⟩
  have HXS : Hid (∀ W', Below w0.heap.size w0 W' -> Cs [(e, .slice p0 n0 q0), (⟨e.block, e.off + 1, none⟩, .int .u32 (x.1.2.ttl : Int)), (⟨e.block, e.off + 2, none⟩, .int .i64 x.1.2.type), (⟨e.block, e.off + 3, none⟩, .slice p1 n1 q1), (⟨e.block, e.off + 4, none⟩, .slice p2 n2 q2), (⟨e.block, e.off + 5, none⟩, .slice p3 n3 q3), (⟨e.block, e.off + 6, none⟩, .slice p4 n4 q4)] W') := fun W' hW => by
   obtain ⟨a, ha, h0, h1, h2, h3, h4, h5, h6⟩ := HCE.out W' hW
   cases ha
   rw [he] at h0 h1 h2 h3 h4 h5 h6
   exact ⟨h0, h1, h2, h3, h4, h5, h6, trivial⟩
  have htk : l.take (i + 1) = l.take i ++ [x] := by rw [List.take_succ_eq_append_getElem hlt, hx]
  have HIN : Hid (Rc.refCanon (plE (l.take (i + 1))) = Rc.put x.1.2 (plE os)) := by show _ = _; rw [htk, plE_snoc, Rc.refCanon_snoc, HI.out]
  have hxr : RecRd [.slice p0 n0 q0, .int .u32 (x.1.2.ttl : Int), .int .i64 x.1.2.type, .slice p1 n1 q1, .slice p2 n2 q2, .slice p3 n3 q3, .slice p4 n4 q4] x.1.2 w := by have h := x.2.1; rw [show x.1.1 = _ from ex] at h; exact h
  have HXR := Lib.hid hxr
  have HEX := Lib.hid ex
  have HR := Lib.hid hrow
  have HB := Lib.hid hb
  obtain ⟨ox, cx, rfl⟩ := hrow.form
  have hosz : (os.length : Int) <= 1000 := by omega
  have hcx : os.length <= cx /\ cx <= 9223372036854775807 := by
   obtain ⟨⟨_, ho⟩, _⟩ := hrow
   rcases ho with ⟨h1, h2⟩ | ⟨g', cap', cur, h1, _, _, h3, h4, _⟩
   ·simp only [Value.slice.injEq] at h1; omega
   ·simp only [Value.slice.injEq] at h1; unfold maxLen at h4; omega
  obtain ⟨hcx1, hcx2⟩ := hcx
  clear hx ex htk hxr hb hrow
  generalize wr = wo at *
  gi_wp2_with fail
  gi_loopw [5] (fun vk W => ∃ k : Nat, k <= os.length /\ vk = .int .i64 k /\ Hid (∀ j (h : j < os.length), j < k -> Rc.cmp os[j].1.2 x.1.2 < 0) /\ Below wo.heap.size wo W) (fun vk _ => os.length - (intOf vk).toNat)
  case atStart => exact ⟨0, Nat.zero_le _, rfl, (fun j h h0 => absurd h0 (by omega)), Below.refl _ _⟩
  case round =>
   obtain ⟨k, hk, rfl, HK, hbk⟩ := hrel
   have HBK := Lib.hid hbk
   have HBK0 := Lib.hid (below5 HB.out hbk)
   have HRK := Lib.hid (HR.out.below hbk)
   have HPS : Hid (Rc.put x.1.2 (plE os) = (plE os).take k ++ Rc.put x.1.2 ((plE os).drop k)) := Rc.put_split _ _ _ (by rw [plE_len]; exact hk) (fun j hj hjk => by rw [plE_get]; exact HK.out j _ hjk)
   clear hbk
   by_cases hkl : k < os.length
   ·have hkz : (k : Int) < (os.length : Int) := by omega
    obtain ⟨y, hy⟩ : ∃ y, os[k] = y := ⟨_, rfl⟩
    obtain ⟨r0, k0, t0, r1, k1, t1, r2, k2, t2, r3, k3, t3, r4, k4, t4, ey⟩ := y.cells
    obtain ⟨g, c', hg⟩ := HR.out.some_block (by omega)
    cases hg
    have hyr : RecRd [.slice r0 k0 t0, .int .u32 (y.1.2.ttl : Int), .int .i64 y.1.2.type, .slice r1 k1 t1, .slice r2 k2 t2, .slice r3 k3 t3, .slice r4 k4 t4] y.1.2 w := by have h := y.2.1; rw [show y.1.1 = _ from ey] at h; exact h
    have HYS : Hid (∀ W', Below wo.heap.size wo W' -> Cs [(⟨g, k * 7, none⟩, Value.slice r0 k0 t0), (⟨g, k * 7 + 1, none⟩, .int .u32 (y.1.2.ttl : Int)), (⟨g, k * 7 + 2, none⟩, .int .i64 y.1.2.type), (⟨g, k * 7 + 3, none⟩, .slice r1 k1 t1), (⟨g, k * 7 + 4, none⟩, .slice r2 k2 t2), (⟨g, k * 7 + 5, none⟩, .slice r3 k3 t3), (⟨g, k * 7 + 6, none⟩, .slice r4 k4 t4), (e, .slice p0 n0 q0), (⟨e.block, e.off + 1, none⟩, .int .u32 (x.1.2.ttl : Int)), (⟨e.block, e.off + 2, none⟩, .int .i64 x.1.2.type), (⟨e.block, e.off + 3, none⟩, .slice p1 n1 q1), (⟨e.block, e.off + 4, none⟩, .slice p2 n2 q2), (⟨e.block, e.off + 5, none⟩, .slice p3 n3 q3), (⟨e.block, e.off + 6, none⟩, .slice p4 n4 q4)] W') := fun W' hW => by
     obtain ⟨h0, h1, h2, h3, h4, h5, h6⟩ := Row.el (HR.out.below hW) k hkl (by rw [hy]; exact ey)
     exact ⟨h0, h1, h2, h3, h4, h5, h6, HXS.out W' (below5 HB.out hW)⟩
    obtain ⟨z, hz⟩ : ∃ z, Rc.cmp y.1.2 x.1.2 = z := ⟨_, rfl⟩
    have HCR := Lib.hid (fun W' (hW : Below wo.heap.size wo W') => refCompareRec_any _ _ y.1.2 x.1.2 W' (hyr.below (below5 HB0.out (below5 HB.out hW))) (HXR.out.below (below5 HB0.out (below5 HB.out hW))) y.2.2 x.2.2)
    have HSR := Lib.hid (fun W' (hW : Below wo.heap.size wo W') => refSameRec_any _ _ y.1.2 x.1.2 W' (hyr.below (below5 HB0.out (below5 HB.out hW))) (HXR.out.below (below5 HB0.out (below5 HB.out hW))) y.2.2 x.2.2)
    rw [hz] at HCR HSR
    have HZ := Lib.hid hz
    have HY := Lib.hid hy
    have HEY := Lib.hid ey
    clear hyr hz hy ey
    gi_wp2_with fail
    refine drawnH (List.range 16) (Cs [(⟨g, k * 7, none⟩, Value.slice r0 k0 t0), (⟨g, k * 7 + 1, none⟩, .int .u32 (y.1.2.ttl : Int)), (⟨g, k * 7 + 2, none⟩, .int .i64 y.1.2.type), (⟨g, k * 7 + 3, none⟩, .slice r1 k1 t1), (⟨g, k * 7 + 4, none⟩, .slice r2 k2 t2), (⟨g, k * 7 + 5, none⟩, .slice r3 k3 t3), (⟨g, k * 7 + 6, none⟩, .slice r4 k4 t4), (e, .slice p0 n0 q0), (⟨e.block, e.off + 1, none⟩, .int .u32 (x.1.2.ttl : Int)), (⟨e.block, e.off + 2, none⟩, .int .i64 x.1.2.type), (⟨e.block, e.off + 3, none⟩, .slice p1 n1 q1), (⟨e.block, e.off + 4, none⟩, .slice p2 n2 q2), (⟨e.block, e.off + 5, none⟩, .slice p3 n3 q3), (⟨e.block, e.off + 6, none⟩, .slice p4 n4 q4)]) 16 rfl (by kernel_rfl) ?_
    intro wa hwa
    have HBA : Hid (Below wo.heap.size wo wa) := by subst hwa; exact HBK.out.drew
    have hS := HYS.out wa HBA.out
    clear hwa
    refine tH 0 ?qav0 hS (fun w1 ⟨y0, y1, y2, y3, y4, y5, y6, x0, x1, x2, x3, x4, x5, x6, _⟩ => ?qay0) ?_
    case qay0 => go_simp; try rfl
    refine tH 1 ?qav1 hS (fun w1 ⟨y0, y1, y2, y3, y4, y5, y6, x0, x1, x2, x3, x4, x5, x6, _⟩ => ?qay1) ?_
    case qay1 => go_simp; try rfl
    refine tH 2 ?qav2 hS (fun w1 ⟨y0, y1, y2, y3, y4, y5, y6, x0, x1, x2, x3, x4, x5, x6, _⟩ => ?qay2) ?_
    case qay2 => go_simp; try rfl
    refine tH 3 ?qav3 hS (fun w1 ⟨y0, y1, y2, y3, y4, y5, y6, x0, x1, x2, x3, x4, x5, x6, _⟩ => ?qay3) ?_
    case qay3 => go_simp; try rfl
    refine tH 4 ?qav4 hS (fun w1 ⟨y0, y1, y2, y3, y4, y5, y6, x0, x1, x2, x3, x4, x5, x6, _⟩ => ?qay4) ?_
    case qay4 => go_simp; try rfl
    refine tH 5 ?qav5 hS (fun w1 ⟨y0, y1, y2, y3, y4, y5, y6, x0, x1, x2, x3, x4, x5, x6, _⟩ => ?qay5) ?_
    case qay5 => go_simp; try rfl
    refine tH 6 ?qav6 hS (fun w1 ⟨y0, y1, y2, y3, y4, y5, y6, x0, x1, x2, x3, x4, x5, x6, _⟩ => ?qay6) ?_
    case qay6 => go_simp; try rfl
    refine tH 7 ?qav7 hS (fun w1 ⟨y0, y1, y2, y3, y4, y5, y6, x0, x1, x2, x3, x4, x5, x6, _⟩ => ?qay7) ?_
    case qay7 => go_simp; try rfl
    simp only [Act.put, List.setIfInBounds_toArray, List.set_cons_succ, List.set_cons_zero]
    refine tH 8 ?qav8 hS (fun w1 ⟨y0, y1, y2, y3, y4, y5, y6, x0, x1, x2, x3, x4, x5, x6, _⟩ => ?qay8) ?_
    case qay8 => go_simp; try rfl
    refine tH 9 ?qav9 hS (fun w1 ⟨y0, y1, y2, y3, y4, y5, y6, x0, x1, x2, x3, x4, x5, x6, _⟩ => ?qay9) ?_
    case qay9 => go_simp; try rfl
    refine tH 10 ?qav10 hS (fun w1 ⟨y0, y1, y2, y3, y4, y5, y6, x0, x1, x2, x3, x4, x5, x6, _⟩ => ?qay10) ?_
    case qay10 => go_simp; try rfl
    refine tH 11 ?qav11 hS (fun w1 ⟨y0, y1, y2, y3, y4, y5, y6, x0, x1, x2, x3, x4, x5, x6, _⟩ => ?qay11) ?_
    case qay11 => go_simp; try rfl
    refine tH 12 ?qav12 hS (fun w1 ⟨y0, y1, y2, y3, y4, y5, y6, x0, x1, x2, x3, x4, x5, x6, _⟩ => ?qay12) ?_
    case qay12 => go_simp; try rfl
    simp only [Act.put, List.setIfInBounds_toArray, List.set_cons_succ, List.set_cons_zero]
    refine oneH 13 (by rfl) (by kernel_rfl) (fun K hK => ?_)
    gi_wp2_with (gi_at_call 102; refine (callsIn_wide.2 (HCR.out wa HBA.out)).mono ?_; rintro e9 wb ⟨rfl, b9⟩)
    have HBB := Lib.hid (below5 HBA.out b9)
    replace hS := HYS.out wb HBB.out
    refine hK _ _ (fun _ => hS) ?_
    clear hK K b9
    by_cases hzl : z < 0
    ·have hzd : decide (z < 0) = true := decide_eq_true hzl
     refine tH 14 ?qbv14 hS (fun w1 ⟨y0, y1, y2, y3, y4, y5, y6, x0, x1, x2, x3, x4, x5, x6, _⟩ => ?qby14) ?_
     case qby14 => go_simp; try rfl
     refine tH 15 ?qbv15 hS (fun w1 ⟨y0, y1, y2, y3, y4, y5, y6, x0, x1, x2, x3, x4, x5, x6, _⟩ => ?qby15) ?_
     case qby15 => go_simp; try rfl
     simp only [Act.put, List.setIfInBounds_toArray, List.set_cons_succ, List.set_cons_zero]
     refine doneH (by kernel_rfl) ?_
     clear hS
     gi_wp2_with fail
     refine ⟨⟨k + 1, hkl, by go_num, ?_, HBB.out⟩, by simp [intOf]; omega⟩
     show ∀ j (h : j < os.length), j < k + 1 -> _
     intro j hj hjk
     by_cases hjk' : j < k
     ·exact HK.out j hj hjk'
     ·obtain rfl : j = k := by omega
      rw [HY.out, HZ.out]; exact hzl
    ·have hzd : decide (z < 0) = false := decide_eq_false hzl
     refine tH 14 ?qcv14 hS (fun w1 ⟨y0, y1, y2, y3, y4, y5, y6, x0, x1, x2, x3, x4, x5, x6, _⟩ => ?qcy14) ?_
     case qcy14 => go_simp; try rfl
     refine tH 15 ?qcv15 hS (fun w1 ⟨y0, y1, y2, y3, y4, y5, y6, x0, x1, x2, x3, x4, x5, x6, _⟩ => ?qcy15) ?_
     case qcy15 => go_simp; try rfl
     simp only [Act.put, List.setIfInBounds_toArray, List.set_cons_succ, List.set_cons_zero]
     refine doneH (by kernel_rfl) ?_
     clear hS
     gi_wp2_with fail
     refine drawnH (List.range 15) (Cs [(⟨g, k * 7, none⟩, Value.slice r0 k0 t0), (⟨g, k * 7 + 1, none⟩, .int .u32 (y.1.2.ttl : Int)), (⟨g, k * 7 + 2, none⟩, .int .i64 y.1.2.type), (⟨g, k * 7 + 3, none⟩, .slice r1 k1 t1), (⟨g, k * 7 + 4, none⟩, .slice r2 k2 t2), (⟨g, k * 7 + 5, none⟩, .slice r3 k3 t3), (⟨g, k * 7 + 6, none⟩, .slice r4 k4 t4), (e, .slice p0 n0 q0), (⟨e.block, e.off + 1, none⟩, .int .u32 (x.1.2.ttl : Int)), (⟨e.block, e.off + 2, none⟩, .int .i64 x.1.2.type), (⟨e.block, e.off + 3, none⟩, .slice p1 n1 q1), (⟨e.block, e.off + 4, none⟩, .slice p2 n2 q2), (⟨e.block, e.off + 5, none⟩, .slice p3 n3 q3), (⟨e.block, e.off + 6, none⟩, .slice p4 n4 q4)]) 15 rfl (by kernel_rfl) ?_
     intro wc hwc
     have HBC : Hid (Below wo.heap.size wo wc) := by subst hwc; exact HBB.out.drew
     have hS := HYS.out wc HBC.out
     clear hwc
     refine tH 0 ?qdv0 hS (fun w1 ⟨y0, y1, y2, y3, y4, y5, y6, x0, x1, x2, x3, x4, x5, x6, _⟩ => ?qdy0) ?_
     case qdy0 => go_simp; try rfl
     refine tH 1 ?qdv1 hS (fun w1 ⟨y0, y1, y2, y3, y4, y5, y6, x0, x1, x2, x3, x4, x5, x6, _⟩ => ?qdy1) ?_
     case qdy1 => go_simp; try rfl
     refine tH 2 ?qdv2 hS (fun w1 ⟨y0, y1, y2, y3, y4, y5, y6, x0, x1, x2, x3, x4, x5, x6, _⟩ => ?qdy2) ?_
     case qdy2 => go_simp; try rfl
     refine tH 3 ?qdv3 hS (fun w1 ⟨y0, y1, y2, y3, y4, y5, y6, x0, x1, x2, x3, x4, x5, x6, _⟩ => ?qdy3) ?_
     case qdy3 => go_simp; try rfl
     refine tH 4 ?qdv4 hS (fun w1 ⟨y0, y1, y2, y3, y4, y5, y6, x0, x1, x2, x3, x4, x5, x6, _⟩ => ?qdy4) ?_
     case qdy4 => go_simp; try rfl
     refine tH 5 ?qdv5 hS (fun w1 ⟨y0, y1, y2, y3, y4, y5, y6, x0, x1, x2, x3, x4, x5, x6, _⟩ => ?qdy5) ?_
     case qdy5 => go_simp; try rfl
     refine tH 6 ?qdv6 hS (fun w1 ⟨y0, y1, y2, y3, y4, y5, y6, x0, x1, x2, x3, x4, x5, x6, _⟩ => ?qdy6) ?_
     case qdy6 => go_simp; try rfl
     refine tH 7 ?qdv7 hS (fun w1 ⟨y0, y1, y2, y3, y4, y5, y6, x0, x1, x2, x3, x4, x5, x6, _⟩ => ?qdy7) ?_
     case qdy7 => go_simp; try rfl
     simp only [Act.put, List.setIfInBounds_toArray, List.set_cons_succ, List.set_cons_zero]
     refine tH 8 ?qdv8 hS (fun w1 ⟨y0, y1, y2, y3, y4, y5, y6, x0, x1, x2, x3, x4, x5, x6, _⟩ => ?qdy8) ?_
     case qdy8 => go_simp; try rfl
     refine tH 9 ?qdv9 hS (fun w1 ⟨y0, y1, y2, y3, y4, y5, y6, x0, x1, x2, x3, x4, x5, x6, _⟩ => ?qdy9) ?_
     case qdy9 => go_simp; try rfl
     refine tH 10 ?qdv10 hS (fun w1 ⟨y0, y1, y2, y3, y4, y5, y6, x0, x1, x2, x3, x4, x5, x6, _⟩ => ?qdy10) ?_
     case qdy10 => go_simp; try rfl
     refine tH 11 ?qdv11 hS (fun w1 ⟨y0, y1, y2, y3, y4, y5, y6, x0, x1, x2, x3, x4, x5, x6, _⟩ => ?qdy11) ?_
     case qdy11 => go_simp; try rfl
     refine tH 12 ?qdv12 hS (fun w1 ⟨y0, y1, y2, y3, y4, y5, y6, x0, x1, x2, x3, x4, x5, x6, _⟩ => ?qdy12) ?_
     case qdy12 => go_simp; try rfl
     simp only [Act.put, List.setIfInBounds_toArray, List.set_cons_succ, List.set_cons_zero]
     refine oneH 13 (by rfl) (by kernel_rfl) (fun K hK => ?_)
     gi_wp2_with (gi_at_call 103; refine (callsIn_wide.2 (HSR.out wc HBC.out)).mono ?_; rintro e9 wd ⟨rfl, b9⟩)
     have HBD := Lib.hid (below5 HBC.out b9)
     replace hS := HYS.out wd HBD.out
     refine hK _ _ (fun _ => hS) ?_
     clear hK K b9
     have HPD : Hid ((plE os).drop k = y.1.2 :: (plE os).drop (k + 1)) := by
      show _ = _
      rw [List.drop_eq_getElem_cons (by rw [plE_len]; exact hkl), plE_get, HY.out]
     have HHZ : Hid (Rc.cmp y.1.2 x.1.2 = z) := HZ.out
     by_cases hz0 : z = 0
     ·subst hz0
      have hbq : ((0 : Int) == 0) = true := rfl
      rw [hbq]
      refine tH 14 ?qev14 hS (fun w1 ⟨y0, y1, y2, y3, y4, y5, y6, x0, x1, x2, x3, x4, x5, x6, _⟩ => ?qey14) ?_
      case qey14 => go_simp; try rfl
      simp only [Act.put, List.setIfInBounds_toArray, List.set_cons_succ, List.set_cons_zero]
      refine doneH (by kernel_rfl) ?_
      clear hS
      gi_wp2_with fail
      refine drawnH (List.range 11) (Cs [(⟨g, k * 7, none⟩, Value.slice r0 k0 t0), (⟨g, k * 7 + 1, none⟩, .int .u32 (y.1.2.ttl : Int)), (⟨g, k * 7 + 2, none⟩, .int .i64 y.1.2.type), (⟨g, k * 7 + 3, none⟩, .slice r1 k1 t1), (⟨g, k * 7 + 4, none⟩, .slice r2 k2 t2), (⟨g, k * 7 + 5, none⟩, .slice r3 k3 t3), (⟨g, k * 7 + 6, none⟩, .slice r4 k4 t4), (e, .slice p0 n0 q0), (⟨e.block, e.off + 1, none⟩, .int .u32 (x.1.2.ttl : Int)), (⟨e.block, e.off + 2, none⟩, .int .i64 x.1.2.type), (⟨e.block, e.off + 3, none⟩, .slice p1 n1 q1), (⟨e.block, e.off + 4, none⟩, .slice p2 n2 q2), (⟨e.block, e.off + 5, none⟩, .slice p3 n3 q3), (⟨e.block, e.off + 6, none⟩, .slice p4 n4 q4)]) 11 rfl (by kernel_rfl) ?_
      intro we hwe
      have HBE : Hid (Below wo.heap.size wo we) := by subst hwe; exact HBD.out.drew
      have hS := HYS.out we HBE.out
      clear hwe
      by_cases htt : x.1.2.ttl < y.1.2.ttl
      ·have htz : (x.1.2.ttl : Int) < (y.1.2.ttl : Int) := by omega
       have htd : decide (x.1.2.ttl < y.1.2.ttl) = true := decide_eq_true htt
       refine tH 0 ?qfv0 hS (fun w1 ⟨y0, y1, y2, y3, y4, y5, y6, x0, x1, x2, x3, x4, x5, x6, _⟩ => ?qfy0) ?_
       case qfy0 => go_simp; try rfl
       refine tH 1 ?qfv1 hS (fun w1 ⟨y0, y1, y2, y3, y4, y5, y6, x0, x1, x2, x3, x4, x5, x6, _⟩ => ?qfy1) ?_
       case qfy1 => go_simp; try rfl
       refine tH 2 ?qfv2 hS (fun w1 ⟨y0, y1, y2, y3, y4, y5, y6, x0, x1, x2, x3, x4, x5, x6, _⟩ => ?qfy2) ?_
       case qfy2 => go_simp; try rfl
       refine tH 3 ?qfv3 hS (fun w1 ⟨y0, y1, y2, y3, y4, y5, y6, x0, x1, x2, x3, x4, x5, x6, _⟩ => ?qfy3) ?_
       case qfy3 => go_simp; try rfl
       refine tH 4 ?qfv4 hS (fun w1 ⟨y0, y1, y2, y3, y4, y5, y6, x0, x1, x2, x3, x4, x5, x6, _⟩ => ?qfy4) ?_
       case qfy4 => go_simp; try rfl
       refine tH 5 ?qfv5 hS (fun w1 ⟨y0, y1, y2, y3, y4, y5, y6, x0, x1, x2, x3, x4, x5, x6, _⟩ => ?qfy5) ?_
       case qfy5 => go_simp; try rfl
       refine tH 6 ?qfv6 hS (fun w1 ⟨y0, y1, y2, y3, y4, y5, y6, x0, x1, x2, x3, x4, x5, x6, _⟩ => ?qfy6) ?_
       case qfy6 => go_simp; try rfl
       refine tH 7 ?qfv7 hS (fun w1 ⟨y0, y1, y2, y3, y4, y5, y6, x0, x1, x2, x3, x4, x5, x6, _⟩ => ?qfy7) ?_
       case qfy7 => go_simp; try rfl
       simp only [Act.put, List.setIfInBounds_toArray, List.set_cons_succ, List.set_cons_zero]
       refine tH 8 ?qfv8 hS (fun w1 ⟨y0, y1, y2, y3, y4, y5, y6, x0, x1, x2, x3, x4, x5, x6, _⟩ => ?qfy8) ?_
       case qfy8 => go_simp; try rfl
       refine tH 9 ?qfv9 hS (fun w1 ⟨y0, y1, y2, y3, y4, y5, y6, x0, x1, x2, x3, x4, x5, x6, _⟩ => ?qfy9) ?_
       case qfy9 => go_simp; try rfl
       refine tH 10 ?qfv10 hS (fun w1 ⟨y0, y1, y2, y3, y4, y5, y6, x0, x1, x2, x3, x4, x5, x6, _⟩ => ?qfy10) ?_
       case qfy10 => go_simp; try rfl
       simp only [Act.put, List.setIfInBounds_toArray, List.set_cons_succ, List.set_cons_zero]
       refine doneH (by kernel_rfl) ?_
       have y1 := hS.2.1
       have x1 := hS.2.2.2.2.2.2.2.2.1
       have yf := (Row.cellAt (HR.out.below HBE.out) (k * 7 + 1) (by omega)).2
       clear hS
       gi_wp2_with fail
       refine ⟨⟨i + 1, os.set k (joinE y x), hlt, by go_num, by rw [List.length_set]; omega, ?_, ?_, ?_⟩, by simp [intOf]; omega⟩
       ·show _ = _
        rw [HIN.out, HPS.out, HPD.out, Rc.put_cons, if_neg (by rw [HHZ.out]; omega), if_pos HHZ.out, if_pos htt]
        rw [plE, List.map_set, List.set_eq_take_append_cons_drop, if_pos (by simpa using hkl)]
        show _ = (plE os).take k ++ _ :: (plE os).drop (k + 1)
        congr 2
        show Rc.join y.1.2 x.1.2 = _
        unfold Rc.join
        rw [show min y.1.2.ttl x.1.2.ttl = x.1.2.ttl by omega]
       ·exact (below5 HB.out HBE.out).setCell (p := ⟨g, k * 7 + 1, none⟩) (HR.out.2 g rfl) _
       ·rw [List.length_set]
        have := Row.set1 (HR.out.below HBE.out) (k * 7 + 1) (.int .u32 (x.1.2.ttl : Int))
        rw [flat_set os k hkl (joinE y x) 1 _ (by decide) (by rw [HY.out]; exact joinE_cells y x HEY.out HEX.out htt)] at this
        exact this
      ·have htz : ¬ (x.1.2.ttl : Int) < (y.1.2.ttl : Int) := by omega
       have htd : decide (x.1.2.ttl < y.1.2.ttl) = false := decide_eq_false htt
       refine tH 0 ?qgv0 hS (fun w1 ⟨y0, y1, y2, y3, y4, y5, y6, x0, x1, x2, x3, x4, x5, x6, _⟩ => ?qgy0) ?_
       case qgy0 => go_simp; try rfl
       refine tH 1 ?qgv1 hS (fun w1 ⟨y0, y1, y2, y3, y4, y5, y6, x0, x1, x2, x3, x4, x5, x6, _⟩ => ?qgy1) ?_
       case qgy1 => go_simp; try rfl
       refine tH 2 ?qgv2 hS (fun w1 ⟨y0, y1, y2, y3, y4, y5, y6, x0, x1, x2, x3, x4, x5, x6, _⟩ => ?qgy2) ?_
       case qgy2 => go_simp; try rfl
       refine tH 3 ?qgv3 hS (fun w1 ⟨y0, y1, y2, y3, y4, y5, y6, x0, x1, x2, x3, x4, x5, x6, _⟩ => ?qgy3) ?_
       case qgy3 => go_simp; try rfl
       refine tH 4 ?qgv4 hS (fun w1 ⟨y0, y1, y2, y3, y4, y5, y6, x0, x1, x2, x3, x4, x5, x6, _⟩ => ?qgy4) ?_
       case qgy4 => go_simp; try rfl
       refine tH 5 ?qgv5 hS (fun w1 ⟨y0, y1, y2, y3, y4, y5, y6, x0, x1, x2, x3, x4, x5, x6, _⟩ => ?qgy5) ?_
       case qgy5 => go_simp; try rfl
       refine tH 6 ?qgv6 hS (fun w1 ⟨y0, y1, y2, y3, y4, y5, y6, x0, x1, x2, x3, x4, x5, x6, _⟩ => ?qgy6) ?_
       case qgy6 => go_simp; try rfl
       refine tH 7 ?qgv7 hS (fun w1 ⟨y0, y1, y2, y3, y4, y5, y6, x0, x1, x2, x3, x4, x5, x6, _⟩ => ?qgy7) ?_
       case qgy7 => go_simp; try rfl
       simp only [Act.put, List.setIfInBounds_toArray, List.set_cons_succ, List.set_cons_zero]
       refine tH 8 ?qgv8 hS (fun w1 ⟨y0, y1, y2, y3, y4, y5, y6, x0, x1, x2, x3, x4, x5, x6, _⟩ => ?qgy8) ?_
       case qgy8 => go_simp; try rfl
       refine tH 9 ?qgv9 hS (fun w1 ⟨y0, y1, y2, y3, y4, y5, y6, x0, x1, x2, x3, x4, x5, x6, _⟩ => ?qgy9) ?_
       case qgy9 => go_simp; try rfl
       refine tH 10 ?qgv10 hS (fun w1 ⟨y0, y1, y2, y3, y4, y5, y6, x0, x1, x2, x3, x4, x5, x6, _⟩ => ?qgy10) ?_
       case qgy10 => go_simp; try rfl
       simp only [Act.put, List.setIfInBounds_toArray, List.set_cons_succ, List.set_cons_zero]
       refine doneH (by kernel_rfl) ?_
       clear hS
       gi_wp2_with fail
       refine ⟨⟨i + 1, os, hlt, by go_num, by omega, ?_, below5 HB.out HBE.out, HR.out.below HBE.out⟩, by simp [intOf]; omega⟩
       show _ = _
       rw [HIN.out, HPS.out, HPD.out, Rc.put_cons, if_neg (by rw [HHZ.out]; omega), if_pos HHZ.out, if_neg htt, <- HPD.out, List.take_append_drop]
     ·have hbq : (z == 0) = false := by rw [beq_eq_false_iff_ne]; exact hz0
      rw [hbq]
      refine tH 14 ?qhv14 hS (fun w1 ⟨y0, y1, y2, y3, y4, y5, y6, x0, x1, x2, x3, x4, x5, x6, _⟩ => ?qhy14) ?_
      case qhy14 => go_simp; try rfl
      simp only [Act.put, List.setIfInBounds_toArray, List.set_cons_succ, List.set_cons_zero]
      refine doneH (by kernel_rfl) ?_
      clear hS
      have HPT : Hid (Rc.put x.1.2 ((plE os).drop k) = x.1.2 :: (plE os).drop k) := by
       show _ = _
       rw [HPD.out, Rc.put_cons, if_neg (by rw [HHZ.out]; omega), if_neg (by rw [HHZ.out]; omega)]
      have hkz2 : (k : Int) <= (cx : Int) := by omega
      gi_wp2_with fail
      refine drawnH [0, 4, 8, 10] (Cs [(e, .slice p0 n0 q0), (⟨e.block, e.off + 1, none⟩, .int .u32 (x.1.2.ttl : Int)), (⟨e.block, e.off + 2, none⟩, .int .i64 x.1.2.type), (⟨e.block, e.off + 3, none⟩, .slice p1 n1 q1), (⟨e.block, e.off + 4, none⟩, .slice p2 n2 q2), (⟨e.block, e.off + 5, none⟩, .slice p3 n3 q3), (⟨e.block, e.off + 6, none⟩, .slice p4 n4 q4)]) 12 rfl (by kernel_rfl) ?_
      intro wj hwj
      have HBJ : Hid (Below w0.heap.size w0 wj) := by subst hwj; exact (below5 HB.out HBD.out).drew
      have HRJ : Hid (Row (fun g => w0.heap.size <= g) 101 7 (.slice (some ⟨g, 0, none⟩) os.length cx) os.length (os.flatMap encE) wj) := by subst hwj; exact (HR.out.below HBD.out).drew
      have hS : Cs [(e, .slice p0 n0 q0), (⟨e.block, e.off + 1, none⟩, .int .u32 (x.1.2.ttl : Int)), (⟨e.block, e.off + 2, none⟩, .int .i64 x.1.2.type), (⟨e.block, e.off + 3, none⟩, .slice p1 n1 q1), (⟨e.block, e.off + 4, none⟩, .slice p2 n2 q2), (⟨e.block, e.off + 5, none⟩, .slice p3 n3 q3), (⟨e.block, e.off + 6, none⟩, .slice p4 n4 q4)] wj := HXS.out wj HBJ.out
      clear hwj
      refine tP 1 ?qBav1 (fun w1 _ => ?qBay1) ?_
      case qBay1 => go_simp; try rfl
      refine tP 2 ?qBav2 (fun w1 _ => ?qBay2) ?_
      case qBay2 => go_simp; try rfl
      refine tP 3 ?qBav3 (fun w1 _ => ?qBay3) ?_
      case qBay3 => go_simp; try rfl
      refine tP 5 ?qBav5 (fun w1 _ => ?qBay5) ?_
      case qBay5 => go_simp; try rfl
      refine tP 6 ?qBav6 (fun w1 _ => ?qBay6) ?_
      case qBay6 => go_simp; try rfl
      refine tP 7 ?qBav7 (fun w1 _ => ?qBay7) ?_
      case qBay7 => go_simp; try rfl
      simp only [Act.put, List.setIfInBounds_toArray, List.set_cons_succ, List.set_cons_zero]
      refine tH 8 ?qBav8 hS (fun w1 ⟨x0, x1, x2, x3, x4, x5, x6, _⟩ => ?qBay8) ?_
      case qBay8 => go_simp; try rfl
      simp only [Act.put, List.setIfInBounds_toArray, List.set_cons_succ, List.set_cons_zero]
      have HGR : Hid (GRd 7 (.slice (some ⟨g, 0, none⟩) os.length cx) (os.map encE) wj) := Row.grd (by rw [List.length_map]; exact HRJ.out) (fun c hc => by
       obtain ⟨y, _, rfl⟩ := List.mem_map.1 hc
       exact ⟨encE_len y, y.2.1.one⟩)
      have HTK : Hid (∀ W', Below wj.heap.size wj W' -> GRd 7 (.slice (some ⟨g, 0, none⟩) k cx) ((os.take k).map encE) W') := fun W' hW => by
       have h := HGR.out.take k cx (by omega) (by omega) (Nat.le_refl _) (fun h => by
        obtain ⟨⟨_, ho⟩, _⟩ := HRJ.out
        rcases ho with ⟨h1, _⟩ | ⟨g', cap', cur, h1, _⟩
        ·simp only [Value.slice.injEq] at h1; omega
        ·first | (cases h1; done) | (simp only [Value.slice.injEq] at h1; rw [h1.1] at h; cases h) | cases h)
       rw [<- List.map_take] at h
       exact h.below hW
      apply finQ (fun (_ _ : Nat) (_ v76 : Value) (W4 : World) => Row (fun g => wj.heap.size <= g) 101 7 v76 (k + 1) ((os.take k ++ [x]).map encE).flatten W4 /\ Below wj.heap.size wj W4)
      case h1 =>
       intro FIN
       refine twoH2 0 9 (by rfl) (by rfl) (by kernel_rfl) (fun K hK => ?_) (fun K hK => ?_)
       ·gi_wp2_with fail
        obtain ⟨wa, hwn0⟩ : ∃ W, wj.alloc (.cells #[] 101) = W := ⟨_, rfl⟩
        have ha : Below wj.heap.size wj wa := by rw [<- hwn0]; exact ((Below.refl wj.heap.size wj)).alloc ((Below.refl wj.heap.size wj)).size _
        obtain ⟨b66, hb66⟩ : ∃ b, wj.heap.size = b := ⟨_, rfl⟩
        have hz66 : wj.heap.size <= b66 := by rw [<- hb66]; exact ((Below.refl wj.heap.size wj)).size
        have he66 : Row (fun g => wj.heap.size <= g) 101 7 (.slice (some ⟨b66, 0, none⟩) 0 0) 0 ([] : List (List Value)).flatten wa := by
         rw [<- hwn0, <- hb66]
         exact ⟨World.ownsRow_lit wj #[] 0 (Nat.zero_le _) (by unfold maxLen; omega) rfl, fun g hg => by cases hg; exact ((Below.refl wj.heap.size wj)).size⟩
        rw [hwn0, hb66]
        have HE66 := Lib.hid he66
        refine hK _ _ (fun _ => HXS.out _ (below5 HBJ.out ha)) ?_
        clear hK K hwn0 hb66 he66
        refine twoH2 4 9 (by rfl) (by rfl) (by kernel_rfl) (fun K hK => ?_) (fun K hK => ?_)
        ·have HSZ4 : Hid (wj.heap.size <= wa.heap.size) := (ha).size
         have HRW4 := Lib.hid (HE66.out)
         gi_wp2_with (gi_at_builtin; refine append_g (fun g => wj.heap.size <= g) 101 _ 7 136 info_rrec rfl (by decide) rfl _ _ _ Tryz.underlying31 rfl _ 0 [] (by rfl) HRW4.out _ ((os.take k).map encE) (by rfl) (HTK.out _ (ha)) (by rw [List.length_map, List.length_take]; omega) (by omega) HSZ4.out ?_; intro v70 wb hrow70 hgr70)
         have hown70 : ∀ g, (Value.slice (some ⟨b66, 0, none⟩) 0 0).ownBlock = some g -> wj.heap.size <= g := fun g hg => HRW4.out.2 g hg
         have hb2 : Below wj.heap.size wj wb := (ha).grown hgr70 (ha).size hown70
         rw [List.nil_append, List.length_map, List.length_take, Nat.zero_add, Nat.min_eq_left hk] at hrow70
         have HR70 := Lib.hid hrow70
         have HGR70 := Lib.hid hgr70
         refine hK _ _ (fun _ => HXS.out _ (below5 HBJ.out hb2)) ?_
         clear hK K hrow70 hgr70 HSZ4
         refine oneH 9 (by rfl) (by kernel_rfl) (fun K hK => ?_)
         gi_wp2_with fail
         obtain ⟨wc, hwn9⟩ : ∃ W, wb.alloc (.cells #[.slice p0 n0 q0, .int .u32 (x.1.2.ttl : Int), .int .i64 x.1.2.type, .slice p1 n1 q1, .slice p2 n2 q2, .slice p3 n3 q3, .slice p4 n4 q4] 101) = W := ⟨_, rfl⟩
         have hc : Below wj.heap.size wj wc := by rw [<- hwn9]; exact (hb2).alloc (hb2).size _
         obtain ⟨b75, hb75⟩ : ∃ b, wb.heap.size = b := ⟨_, rfl⟩
         have hg75 : GRd 7 (.slice (some ⟨b75, 0, none⟩) 1 1) [encE x] wc := by
          rw [<- hwn9, <- hb75, HEX.out]
          exact GRd.new [.slice p0 n0 q0, .int .u32 (x.1.2.ttl : Int), .int .i64 x.1.2.type, .slice p1 n1 q1, .slice p2 n2 q2, .slice p3 n3 q3, .slice p4 n4 q4] rfl (by simp [Value.oneCell']) wb 101
         have ha75 : Below wb.heap.size wb wc := by rw [<- hwn9]; exact (Below.refl _ _).alloc (Nat.le_refl _) _
         have hk75 : ∃ c t f, wc.heap[b75]? = some (.cells c t f) /\ b75 + 1 = wc.heap.size := by
          rw [<- hwn9, <- hb75]; exact ⟨_, _, _, World.alloc_heap_new wb _, by simp⟩
         rw [hwn9, hb75]
         have HG75 := Lib.hid hg75
         have HA75 := Lib.hid ha75
         refine hK _ _ (fun h => absurd h (by decide)) ?_
         clear hK K hwn9 hg75 ha75
         have HSZ9 : Hid (wj.heap.size <= wc.heap.size) := (hc).size
         have HRW9 := Lib.hid (HR70.out.below HA75.out)
         have HGW9 := Lib.hid (HG75.out)
         refine oneH 10 (by rfl) (by kernel_rfl) (fun K hK => ?_)
         gi_wp2_with (gi_at_builtin; refine append_g (fun g => wj.heap.size <= g) 101 _ 7 136 info_rrec rfl (by decide) rfl _ _ _ Tryz.underlying31 rfl _ k ((os.take k).map encE) (by rfl) HRW9.out _ [encE x] (by rfl) HGW9.out (by simp; omega) (by omega) HSZ9.out ?_; intro v76 wd hrow76 hgr76)
         have hd : Below wj.heap.size wj wd := (hc).grown hgr76 (hc).size (fun g hg => HRW9.out.2 g hg)
         have HR76 := Lib.hid hrow76
         refine hK _ _ (fun _ => HXS.out _ (below5 HBJ.out hd)) ?_
         clear hK K hrow76 hgr76 HSZ9
         refine oneH 11 (by rfl) (by kernel_rfl) (fun K hK => ?_)
         gi_wp2_with fail
         refine hK _ _ (fun h => absurd h (by decide)) ?_
         clear hK K
         refine doneH (by kernel_rfl) ?_
         have hfr := HR76.out
         rw [<- List.map_singleton (f := encE), <- List.map_append] at hfr
         apply FIN b66 b75 v70 v76 wd
         exact ⟨hfr, hd⟩
        ·gi_wp2_with fail
         obtain ⟨wb, hwn9⟩ : ∃ W, wa.alloc (.cells #[.slice p0 n0 q0, .int .u32 (x.1.2.ttl : Int), .int .i64 x.1.2.type, .slice p1 n1 q1, .slice p2 n2 q2, .slice p3 n3 q3, .slice p4 n4 q4] 101) = W := ⟨_, rfl⟩
         have hb2 : Below wj.heap.size wj wb := by rw [<- hwn9]; exact (ha).alloc (ha).size _
         obtain ⟨b75, hb75⟩ : ∃ b, wa.heap.size = b := ⟨_, rfl⟩
         have hg75 : GRd 7 (.slice (some ⟨b75, 0, none⟩) 1 1) [encE x] wb := by
          rw [<- hwn9, <- hb75, HEX.out]
          exact GRd.new [.slice p0 n0 q0, .int .u32 (x.1.2.ttl : Int), .int .i64 x.1.2.type, .slice p1 n1 q1, .slice p2 n2 q2, .slice p3 n3 q3, .slice p4 n4 q4] rfl (by simp [Value.oneCell']) wa 101
         have ha75 : Below wa.heap.size wa wb := by rw [<- hwn9]; exact (Below.refl _ _).alloc (Nat.le_refl _) _
         have hk75 : ∃ c t f, wb.heap[b75]? = some (.cells c t f) /\ b75 + 1 = wb.heap.size := by
          rw [<- hwn9, <- hb75]; exact ⟨_, _, _, World.alloc_heap_new wa _, by simp⟩
         rw [hwn9, hb75]
         have HG75 := Lib.hid hg75
         have HA75 := Lib.hid ha75
         refine hK _ _ (fun h => absurd h (by decide)) ?_
         clear hK K hwn9 hg75 ha75
         have HE67 := Lib.hid (HE66.out.below HA75.out)
         have hne75 : b66 ≠ b75 := by
          obtain ⟨c, t, f, h1, h2⟩ := hk75
          have h3 := (HE66.out.1.lt b66 rfl).2
          have h4 := HA75.out.size
          omega
         refine oneH 4 (by rfl) (by kernel_rfl) (fun K hK => ?_)
         have HSZ4 : Hid (wj.heap.size <= wb.heap.size) := (hb2).size
         have HRW4 := Lib.hid (HE67.out)
         gi_wp2_with (gi_at_builtin; refine append_g (fun g => wj.heap.size <= g) 101 _ 7 136 info_rrec rfl (by decide) rfl _ _ _ Tryz.underlying31 rfl _ 0 [] (by rfl) HRW4.out _ ((os.take k).map encE) (by rfl) (HTK.out _ (hb2)) (by rw [List.length_map, List.length_take]; omega) (by omega) HSZ4.out ?_; intro v70 wc hrow70 hgr70)
         have hown70 : ∀ g, (Value.slice (some ⟨b66, 0, none⟩) 0 0).ownBlock = some g -> wj.heap.size <= g := fun g hg => HRW4.out.2 g hg
         have hc : Below wj.heap.size wj wc := (hb2).grown hgr70 (hb2).size hown70
         rw [List.nil_append, List.length_map, List.length_take, Nat.zero_add, Nat.min_eq_left hk] at hrow70
         have HR70 := Lib.hid hrow70
         have HGR70 := Lib.hid hgr70
         refine hK _ _ (fun _ => HXS.out _ (below5 HBJ.out hc)) ?_
         clear hK K hrow70 hgr70 HSZ4
         have HSZ9 : Hid (wj.heap.size <= wc.heap.size) := (hc).size
         have HRW9 := Lib.hid (HR70.out)
         have HGW9 := Lib.hid (GRd.grown75 HG75.out HGR70.out (by rintro g hg; simp only [Value.ownBlock, Option.some.injEq] at hg; omega))
         refine oneH 10 (by rfl) (by kernel_rfl) (fun K hK => ?_)
         gi_wp2_with (gi_at_builtin; refine append_g (fun g => wj.heap.size <= g) 101 _ 7 136 info_rrec rfl (by decide) rfl _ _ _ Tryz.underlying31 rfl _ k ((os.take k).map encE) (by rfl) HRW9.out _ [encE x] (by rfl) HGW9.out (by simp; omega) (by omega) HSZ9.out ?_; intro v76 wd hrow76 hgr76)
         have hd : Below wj.heap.size wj wd := (hc).grown hgr76 (hc).size (fun g hg => HRW9.out.2 g hg)
         have HR76 := Lib.hid hrow76
         refine hK _ _ (fun _ => HXS.out _ (below5 HBJ.out hd)) ?_
         clear hK K hrow76 hgr76 HSZ9
         refine oneH 11 (by rfl) (by kernel_rfl) (fun K hK => ?_)
         gi_wp2_with fail
         refine hK _ _ (fun h => absurd h (by decide)) ?_
         clear hK K
         refine doneH (by kernel_rfl) ?_
         have hfr := HR76.out
         rw [<- List.map_singleton (f := encE), <- List.map_append] at hfr
         apply FIN b66 b75 v70 v76 wd
         exact ⟨hfr, hd⟩
       ·gi_wp2_with fail
        obtain ⟨wa, hwn9⟩ : ∃ W, wj.alloc (.cells #[.slice p0 n0 q0, .int .u32 (x.1.2.ttl : Int), .int .i64 x.1.2.type, .slice p1 n1 q1, .slice p2 n2 q2, .slice p3 n3 q3, .slice p4 n4 q4] 101) = W := ⟨_, rfl⟩
        have ha : Below wj.heap.size wj wa := by rw [<- hwn9]; exact ((Below.refl wj.heap.size wj)).alloc ((Below.refl wj.heap.size wj)).size _
        obtain ⟨b75, hb75⟩ : ∃ b, wj.heap.size = b := ⟨_, rfl⟩
        have hg75 : GRd 7 (.slice (some ⟨b75, 0, none⟩) 1 1) [encE x] wa := by
         rw [<- hwn9, <- hb75, HEX.out]
         exact GRd.new [.slice p0 n0 q0, .int .u32 (x.1.2.ttl : Int), .int .i64 x.1.2.type, .slice p1 n1 q1, .slice p2 n2 q2, .slice p3 n3 q3, .slice p4 n4 q4] rfl (by simp [Value.oneCell']) wj 101
        have ha75 : Below wj.heap.size wj wa := by rw [<- hwn9]; exact (Below.refl _ _).alloc (Nat.le_refl _) _
        have hk75 : ∃ c t f, wa.heap[b75]? = some (.cells c t f) /\ b75 + 1 = wa.heap.size := by
         rw [<- hwn9, <- hb75]; exact ⟨_, _, _, World.alloc_heap_new wj _, by simp⟩
        rw [hwn9, hb75]
        have HG75 := Lib.hid hg75
        have HA75 := Lib.hid ha75
        refine hK _ _ (fun h => absurd h (by decide)) ?_
        clear hK K hwn9 hg75 ha75
        refine oneH 0 (by rfl) (by kernel_rfl) (fun K hK => ?_)
        gi_wp2_with fail
        obtain ⟨wb, hwn0⟩ : ∃ W, wa.alloc (.cells #[] 101) = W := ⟨_, rfl⟩
        have hb2 : Below wj.heap.size wj wb := by rw [<- hwn0]; exact (ha).alloc (ha).size _
        obtain ⟨b66, hb66⟩ : ∃ b, wa.heap.size = b := ⟨_, rfl⟩
        have hz66 : wj.heap.size <= b66 := by rw [<- hb66]; exact (ha).size
        have he66 : Row (fun g => wj.heap.size <= g) 101 7 (.slice (some ⟨b66, 0, none⟩) 0 0) 0 ([] : List (List Value)).flatten wb := by
         rw [<- hwn0, <- hb66]
         exact ⟨World.ownsRow_lit wa #[] 0 (Nat.zero_le _) (by unfold maxLen; omega) rfl, fun g hg => by cases hg; exact (ha).size⟩
        have hn66 : wa.heap.size = b66 := hb66
        have HA66 : Hid (Below wa.heap.size wa wb) := by show Below _ _ _; rw [<- hwn0]; exact (Below.refl _ _).alloc (Nat.le_refl _) _
        rw [hwn0, hb66]
        have HE66 := Lib.hid he66
        refine hK _ _ (fun _ => HXS.out _ (below5 HBJ.out hb2)) ?_
        clear hK K hwn0 hb66 he66
        have hne75 : b66 ≠ b75 := by
         obtain ⟨c, t, f, h1, h2⟩ := hk75
         have h3 := hn66
         omega
        refine oneH 4 (by rfl) (by kernel_rfl) (fun K hK => ?_)
        have HSZ4 : Hid (wj.heap.size <= wb.heap.size) := (hb2).size
        have HRW4 := Lib.hid (HE66.out)
        gi_wp2_with (gi_at_builtin; refine append_g (fun g => wj.heap.size <= g) 101 _ 7 136 info_rrec rfl (by decide) rfl _ _ _ Tryz.underlying31 rfl _ 0 [] (by rfl) HRW4.out _ ((os.take k).map encE) (by rfl) (HTK.out _ (hb2)) (by rw [List.length_map, List.length_take]; omega) (by omega) HSZ4.out ?_; intro v70 wc hrow70 hgr70)
        have hown70 : ∀ g, (Value.slice (some ⟨b66, 0, none⟩) 0 0).ownBlock = some g -> wj.heap.size <= g := fun g hg => HRW4.out.2 g hg
        have hc : Below wj.heap.size wj wc := (hb2).grown hgr70 (hb2).size hown70
        rw [List.nil_append, List.length_map, List.length_take, Nat.zero_add, Nat.min_eq_left hk] at hrow70
        have HR70 := Lib.hid hrow70
        have HGR70 := Lib.hid hgr70
        refine hK _ _ (fun _ => HXS.out _ (below5 HBJ.out hc)) ?_
        clear hK K hrow70 hgr70 HSZ4
        have HSZ9 : Hid (wj.heap.size <= wc.heap.size) := (hc).size
        have HRW9 := Lib.hid (HR70.out)
        have HGW9 := Lib.hid (GRd.grown75 (HG75.out.below HA66.out) HGR70.out (by rintro g hg; simp only [Value.ownBlock, Option.some.injEq] at hg; omega))
        refine oneH 10 (by rfl) (by kernel_rfl) (fun K hK => ?_)
        gi_wp2_with (gi_at_builtin; refine append_g (fun g => wj.heap.size <= g) 101 _ 7 136 info_rrec rfl (by decide) rfl _ _ _ Tryz.underlying31 rfl _ k ((os.take k).map encE) (by rfl) HRW9.out _ [encE x] (by rfl) HGW9.out (by simp; omega) (by omega) HSZ9.out ?_; intro v76 wd hrow76 hgr76)
        have hd : Below wj.heap.size wj wd := (hc).grown hgr76 (hc).size (fun g hg => HRW9.out.2 g hg)
        have HR76 := Lib.hid hrow76
        refine hK _ _ (fun _ => HXS.out _ (below5 HBJ.out hd)) ?_
        clear hK K hrow76 hgr76 HSZ9
        refine oneH 11 (by rfl) (by kernel_rfl) (fun K hK => ?_)
        gi_wp2_with fail
        refine hK _ _ (fun h => absurd h (by decide)) ?_
        clear hK K
        refine doneH (by kernel_rfl) ?_
        have hfr := HR76.out
        rw [<- List.map_singleton (f := encE), <- List.map_append] at hfr
        apply FIN b66 b75 v70 v76 wd
        exact ⟨hfr, hd⟩
      case h2 =>
       rintro b66 b75 v70 v76 W4 ⟨hr76, hb4⟩
       have HR76 := Lib.hid hr76
       have HB4 := Lib.hid (below5 HBJ.out hb4)
       have hro : GRd 7 (.slice (some ⟨g, 0, none⟩) os.length cx) (os.map encE) W4 := HGR.out.below hb4
       have HD0 := Lib.hid (fun hc => hro.drop0 k hk hc)
       have HD1 := Lib.hid (hro.drop k hk)
       have HD2 : Hid (GRd 7 (.slice (some ⟨g, k * 7, none⟩) (os.length - k) (cx - k)) ((os.map encE).drop k) W4) := by
        have h := hro.drop k hk
        rw [show (some (⟨g, 0, none⟩ : Addr)).map (·.add (k * 7)) = some ⟨g, k * 7, none⟩ by simp only [Option.map_some, Addr.add, Nat.zero_add]; split <;> simp_all] at h
        exact h
       have HZ4 : Hid (w0.heap.size <= W4.heap.size) := HB4.out.size
       have HWJ : Hid (w0.heap.size <= wj.heap.size) := HBJ.out.size
       have hdl : ((os.map encE).drop k).length = os.length - k := by rw [List.length_drop, List.length_map]
       obtain ⟨av, cw, hv76⟩ := hr76.form
       subst hv76
       clear hr76 hb4 hro
       gi_wp2_with (gi_at_builtin; refine append_g (fun g => w0.heap.size <= g) 101 _ 7 136 info_rrec rfl (by decide) rfl _ _ _ Tryz.underlying31 rfl _ (k + 1) ((os.take k ++ [x]).map encE) (by rfl) (HR76.out.mono (fun g hg => Nat.le_trans HWJ.out hg)) _ ((os.map encE).drop k) (by first | rfl) (by first | exact HD0.out (by assumption) | exact HD1.out | exact HD2.out) (by rw [hdl]; omega) (by omega) HZ4.out ?_; intro v81 w81 hrow81 hgr81; have HR81 := Lib.hid hrow81; have HG81 := Lib.hid hgr81; clear hrow81 hgr81)
       all_goals
        gi_wp2_with fail
        refine ⟨⟨i + 1, os.take k ++ x :: os.drop k, hlt, by go_num, by simp [List.length_take]; omega, ?_, ?_, ?_⟩, by simp [intOf]; omega⟩
        ·show _ = _
         rw [HIN.out, HPS.out, HPT.out]
         first | (simp [plE, List.map_take, List.map_drop]; done) | (rw [List.take_of_length_le (Nat.le_of_eq (plE_len os)), List.drop_of_length_le (Nat.le_of_eq (plE_len os)), List.take_length, List.drop_length]; simp [plE])
        ·exact HB4.out.grown HG81.out HB4.out.size (fun g hg => Nat.le_trans HWJ.out (HR76.out.2 g hg))
        ·have := HR81.out
         rw [hdl] at this
         rw [show (os.take k ++ x :: os.drop k).length = k + 1 + (os.length - k) by simp [List.length_take] <;> omega, List.flatMap_def, show (os.take k ++ x :: os.drop k).map encE = (os.take k ++ [x]).map encE ++ (os.map encE).drop k by simp [List.map_drop]]
         exact this
   ·have hkz : ¬ (k : Int) < (os.length : Int) := by omega
    obtain rfl : k = os.length := by omega
    have HPT : Hid (Rc.put x.1.2 ((plE os).drop os.length) = x.1.2 :: (plE os).drop os.length) := by
     show _ = _
     rw [List.drop_of_length_le (by rw [plE_len]; exact Nat.le_refl _)]; rfl
    gi_wp2_with fail
    refine drawnH (List.range 16) (fun _ => True) 16 rfl (by kernel_rfl) ?_
    intro wa hwa
    have HBA : Hid (Below wo.heap.size wo wa) := by subst hwa; exact HBK.out.drew
    have hS : True := trivial
    clear hwa
    refine tH 0 ?rav0 hS (fun w1 _ => ?ray0) ?_
    case ray0 => go_simp; try rfl
    refine tH 1 ?rav1 hS (fun w1 _ => ?ray1) ?_
    case ray1 => go_simp; try rfl
    refine tH 2 ?rav2 hS (fun w1 _ => ?ray2) ?_
    case ray2 => go_simp; try rfl
    refine tH 3 ?rav3 hS (fun w1 _ => ?ray3) ?_
    case ray3 => go_simp; try rfl
    refine tH 4 ?rav4 hS (fun w1 _ => ?ray4) ?_
    case ray4 => go_simp; try rfl
    simp only [Act.put, List.setIfInBounds_toArray, List.set_cons_succ, List.set_cons_zero]
    refine tU 5 hS ?_
    refine tU 6 hS ?_
    refine tU 7 hS ?_
    refine tU 8 hS ?_
    refine tU 9 hS ?_
    refine tU 10 hS ?_
    refine tU 11 hS ?_
    refine tU 12 hS ?_
    refine tU 13 hS ?_
    refine tU 14 hS ?_
    simp only [Act.put, List.setIfInBounds_toArray, List.set_cons_succ, List.set_cons_zero]
    refine tH 15 ?rav15 hS (fun w1 _ => ?ray15) ?_
    case ray15 => go_simp; try rfl
    simp only [Act.put, List.setIfInBounds_toArray, List.set_cons_succ, List.set_cons_zero]
    refine doneH (by kernel_rfl) ?_
    clear hS
    gi_wp2_with fail
    refine drawnH (List.range 15) (fun _ => True) 15 rfl (by kernel_rfl) ?_
    intro wd hwd
    have HBD : Hid (Below wo.heap.size wo wd) := by subst hwd; exact HBA.out.drew
    have hS : True := trivial
    clear hwd
    refine tH 0 ?rbv0 hS (fun w1 _ => ?rby0) ?_
    case rby0 => go_simp; try rfl
    refine tH 1 ?rbv1 hS (fun w1 _ => ?rby1) ?_
    case rby1 => go_simp; try rfl
    refine tH 2 ?rbv2 hS (fun w1 _ => ?rby2) ?_
    case rby2 => go_simp; try rfl
    refine tH 3 ?rbv3 hS (fun w1 _ => ?rby3) ?_
    case rby3 => go_simp; try rfl
    refine tH 4 ?rbv4 hS (fun w1 _ => ?rby4) ?_
    case rby4 => go_simp; try rfl
    simp only [Act.put, List.setIfInBounds_toArray, List.set_cons_succ, List.set_cons_zero]
    refine tU 5 hS ?_
    refine tU 6 hS ?_
    refine tU 7 hS ?_
    refine tU 8 hS ?_
    refine tU 9 hS ?_
    refine tU 10 hS ?_
    refine tU 11 hS ?_
    refine tU 12 hS ?_
    refine tU 13 hS ?_
    simp only [Act.put, List.setIfInBounds_toArray, List.set_cons_succ, List.set_cons_zero]
    refine tH 14 ?rbv14 hS (fun w1 _ => ?rby14) ?_
    case rby14 => go_simp; try rfl
    simp only [Act.put, List.setIfInBounds_toArray, List.set_cons_succ, List.set_cons_zero]
    refine doneH (by kernel_rfl) ?_
    clear hS
    have hkz2 : (os.length : Int) <= (cx : Int) := by omega
    gi_wp2_with fail
    refine drawnH [0, 4, 8, 10] (Cs [(e, .slice p0 n0 q0), (⟨e.block, e.off + 1, none⟩, .int .u32 (x.1.2.ttl : Int)), (⟨e.block, e.off + 2, none⟩, .int .i64 x.1.2.type), (⟨e.block, e.off + 3, none⟩, .slice p1 n1 q1), (⟨e.block, e.off + 4, none⟩, .slice p2 n2 q2), (⟨e.block, e.off + 5, none⟩, .slice p3 n3 q3), (⟨e.block, e.off + 6, none⟩, .slice p4 n4 q4)]) 12 rfl (by kernel_rfl) ?_
    intro wj hwj
    have HBJ : Hid (Below w0.heap.size w0 wj) := by subst hwj; exact (below5 HB.out HBD.out).drew
    have HRJ : Hid (Row (fun g => w0.heap.size <= g) 101 7 (.slice ox os.length cx) os.length (os.flatMap encE) wj) := by subst hwj; exact (HR.out.below HBD.out).drew
    have hS : Cs [(e, .slice p0 n0 q0), (⟨e.block, e.off + 1, none⟩, .int .u32 (x.1.2.ttl : Int)), (⟨e.block, e.off + 2, none⟩, .int .i64 x.1.2.type), (⟨e.block, e.off + 3, none⟩, .slice p1 n1 q1), (⟨e.block, e.off + 4, none⟩, .slice p2 n2 q2), (⟨e.block, e.off + 5, none⟩, .slice p3 n3 q3), (⟨e.block, e.off + 6, none⟩, .slice p4 n4 q4)] wj := HXS.out wj HBJ.out
    clear hwj
    refine tP 1 ?qAav1 (fun w1 _ => ?qAay1) ?_
    case qAay1 => go_simp; try rfl
    refine tP 2 ?qAav2 (fun w1 _ => ?qAay2) ?_
    case qAay2 => go_simp; try rfl
    refine tP 3 ?qAav3 (fun w1 _ => ?qAay3) ?_
    case qAay3 => go_simp; try rfl
    refine tP 5 ?qAav5 (fun w1 _ => ?qAay5) ?_
    case qAay5 => go_simp; try rfl
    refine tP 6 ?qAav6 (fun w1 _ => ?qAay6) ?_
    case qAay6 => go_simp; try rfl
    refine tP 7 ?qAav7 (fun w1 _ => ?qAay7) ?_
    case qAay7 => go_simp; try rfl
    simp only [Act.put, List.setIfInBounds_toArray, List.set_cons_succ, List.set_cons_zero]
    refine tH 8 ?qAav8 hS (fun w1 ⟨x0, x1, x2, x3, x4, x5, x6, _⟩ => ?qAay8) ?_
    case qAay8 => go_simp; try rfl
    simp only [Act.put, List.setIfInBounds_toArray, List.set_cons_succ, List.set_cons_zero]
    have HGR : Hid (GRd 7 (.slice ox os.length cx) (os.map encE) wj) := Row.grd (by rw [List.length_map]; exact HRJ.out) (fun c hc => by
     obtain ⟨y, _, rfl⟩ := List.mem_map.1 hc
     exact ⟨encE_len y, y.2.1.one⟩)
    have HTK : Hid (∀ W', Below wj.heap.size wj W' -> GRd 7 (.slice ox os.length cx) ((os.take os.length).map encE) W') := fun W' hW => by
     have h := HGR.out.take os.length cx (by omega) (by omega) (Nat.le_refl _) (fun h => by
      obtain ⟨⟨_, ho⟩, _⟩ := HRJ.out
      rcases ho with ⟨h1, _⟩ | ⟨g', cap', cur, h1, _⟩
      ·simp only [Value.slice.injEq] at h1; omega
      ·first | (cases h1; done) | (simp only [Value.slice.injEq] at h1; rw [h1.1] at h; cases h) | cases h)
     rw [<- List.map_take] at h
     exact h.below hW
    apply finQ (fun (_ _ : Nat) (_ v76 : Value) (W4 : World) => Row (fun g => wj.heap.size <= g) 101 7 v76 (os.length + 1) ((os.take os.length ++ [x]).map encE).flatten W4 /\ Below wj.heap.size wj W4)
    case h1 =>
     intro FIN
     refine twoH2 0 9 (by rfl) (by rfl) (by kernel_rfl) (fun K hK => ?_) (fun K hK => ?_)
     ·gi_wp2_with fail
      obtain ⟨wa, hwn0⟩ : ∃ W, wj.alloc (.cells #[] 101) = W := ⟨_, rfl⟩
      have ha : Below wj.heap.size wj wa := by rw [<- hwn0]; exact ((Below.refl wj.heap.size wj)).alloc ((Below.refl wj.heap.size wj)).size _
      obtain ⟨b66, hb66⟩ : ∃ b, wj.heap.size = b := ⟨_, rfl⟩
      have hz66 : wj.heap.size <= b66 := by rw [<- hb66]; exact ((Below.refl wj.heap.size wj)).size
      have he66 : Row (fun g => wj.heap.size <= g) 101 7 (.slice (some ⟨b66, 0, none⟩) 0 0) 0 ([] : List (List Value)).flatten wa := by
       rw [<- hwn0, <- hb66]
       exact ⟨World.ownsRow_lit wj #[] 0 (Nat.zero_le _) (by unfold maxLen; omega) rfl, fun g hg => by cases hg; exact ((Below.refl wj.heap.size wj)).size⟩
      rw [hwn0, hb66]
      have HE66 := Lib.hid he66
      refine hK _ _ (fun _ => HXS.out _ (below5 HBJ.out ha)) ?_
      clear hK K hwn0 hb66 he66
      refine twoH2 4 9 (by rfl) (by rfl) (by kernel_rfl) (fun K hK => ?_) (fun K hK => ?_)
      ·have HSZ4 : Hid (wj.heap.size <= wa.heap.size) := (ha).size
       have HRW4 := Lib.hid (HE66.out)
       gi_wp2_with (gi_at_builtin; refine append_g (fun g => wj.heap.size <= g) 101 _ 7 136 info_rrec rfl (by decide) rfl _ _ _ Tryz.underlying31 rfl _ 0 [] (by rfl) HRW4.out _ ((os.take os.length).map encE) (by rfl) (HTK.out _ (ha)) (by rw [List.length_map, List.length_take]; omega) (by omega) HSZ4.out ?_; intro v70 wb hrow70 hgr70)
       have hown70 : ∀ g, (Value.slice (some ⟨b66, 0, none⟩) 0 0).ownBlock = some g -> wj.heap.size <= g := fun g hg => HRW4.out.2 g hg
       have hb2 : Below wj.heap.size wj wb := (ha).grown hgr70 (ha).size hown70
       rw [List.nil_append, List.length_map, List.length_take, Nat.zero_add, Nat.min_eq_left hk] at hrow70
       have HR70 := Lib.hid hrow70
       have HGR70 := Lib.hid hgr70
       refine hK _ _ (fun _ => HXS.out _ (below5 HBJ.out hb2)) ?_
       clear hK K hrow70 hgr70 HSZ4
       refine oneH 9 (by rfl) (by kernel_rfl) (fun K hK => ?_)
       gi_wp2_with fail
       obtain ⟨wc, hwn9⟩ : ∃ W, wb.alloc (.cells #[.slice p0 n0 q0, .int .u32 (x.1.2.ttl : Int), .int .i64 x.1.2.type, .slice p1 n1 q1, .slice p2 n2 q2, .slice p3 n3 q3, .slice p4 n4 q4] 101) = W := ⟨_, rfl⟩
       have hc : Below wj.heap.size wj wc := by rw [<- hwn9]; exact (hb2).alloc (hb2).size _
       obtain ⟨b75, hb75⟩ : ∃ b, wb.heap.size = b := ⟨_, rfl⟩
       have hg75 : GRd 7 (.slice (some ⟨b75, 0, none⟩) 1 1) [encE x] wc := by
        rw [<- hwn9, <- hb75, HEX.out]
        exact GRd.new [.slice p0 n0 q0, .int .u32 (x.1.2.ttl : Int), .int .i64 x.1.2.type, .slice p1 n1 q1, .slice p2 n2 q2, .slice p3 n3 q3, .slice p4 n4 q4] rfl (by simp [Value.oneCell']) wb 101
       have ha75 : Below wb.heap.size wb wc := by rw [<- hwn9]; exact (Below.refl _ _).alloc (Nat.le_refl _) _
       have hk75 : ∃ c t f, wc.heap[b75]? = some (.cells c t f) /\ b75 + 1 = wc.heap.size := by
        rw [<- hwn9, <- hb75]; exact ⟨_, _, _, World.alloc_heap_new wb _, by simp⟩
       rw [hwn9, hb75]
       have HG75 := Lib.hid hg75
       have HA75 := Lib.hid ha75
       refine hK _ _ (fun h => absurd h (by decide)) ?_
       clear hK K hwn9 hg75 ha75
       have HSZ9 : Hid (wj.heap.size <= wc.heap.size) := (hc).size
       have HRW9 := Lib.hid (HR70.out.below HA75.out)
       have HGW9 := Lib.hid (HG75.out)
       refine oneH 10 (by rfl) (by kernel_rfl) (fun K hK => ?_)
       gi_wp2_with (gi_at_builtin; refine append_g (fun g => wj.heap.size <= g) 101 _ 7 136 info_rrec rfl (by decide) rfl _ _ _ Tryz.underlying31 rfl _ os.length ((os.take os.length).map encE) (by rfl) HRW9.out _ [encE x] (by rfl) HGW9.out (by simp; omega) (by omega) HSZ9.out ?_; intro v76 wd hrow76 hgr76)
       have hd : Below wj.heap.size wj wd := (hc).grown hgr76 (hc).size (fun g hg => HRW9.out.2 g hg)
       have HR76 := Lib.hid hrow76
       refine hK _ _ (fun _ => HXS.out _ (below5 HBJ.out hd)) ?_
       clear hK K hrow76 hgr76 HSZ9
       refine oneH 11 (by rfl) (by kernel_rfl) (fun K hK => ?_)
       gi_wp2_with fail
       refine hK _ _ (fun h => absurd h (by decide)) ?_
       clear hK K
       refine doneH (by kernel_rfl) ?_
       have hfr := HR76.out
       rw [<- List.map_singleton (f := encE), <- List.map_append] at hfr
       apply FIN b66 b75 v70 v76 wd
       exact ⟨hfr, hd⟩
      ·gi_wp2_with fail
       obtain ⟨wb, hwn9⟩ : ∃ W, wa.alloc (.cells #[.slice p0 n0 q0, .int .u32 (x.1.2.ttl : Int), .int .i64 x.1.2.type, .slice p1 n1 q1, .slice p2 n2 q2, .slice p3 n3 q3, .slice p4 n4 q4] 101) = W := ⟨_, rfl⟩
       have hb2 : Below wj.heap.size wj wb := by rw [<- hwn9]; exact (ha).alloc (ha).size _
       obtain ⟨b75, hb75⟩ : ∃ b, wa.heap.size = b := ⟨_, rfl⟩
       have hg75 : GRd 7 (.slice (some ⟨b75, 0, none⟩) 1 1) [encE x] wb := by
        rw [<- hwn9, <- hb75, HEX.out]
        exact GRd.new [.slice p0 n0 q0, .int .u32 (x.1.2.ttl : Int), .int .i64 x.1.2.type, .slice p1 n1 q1, .slice p2 n2 q2, .slice p3 n3 q3, .slice p4 n4 q4] rfl (by simp [Value.oneCell']) wa 101
       have ha75 : Below wa.heap.size wa wb := by rw [<- hwn9]; exact (Below.refl _ _).alloc (Nat.le_refl _) _
       have hk75 : ∃ c t f, wb.heap[b75]? = some (.cells c t f) /\ b75 + 1 = wb.heap.size := by
        rw [<- hwn9, <- hb75]; exact ⟨_, _, _, World.alloc_heap_new wa _, by simp⟩
       rw [hwn9, hb75]
       have HG75 := Lib.hid hg75
       have HA75 := Lib.hid ha75
       refine hK _ _ (fun h => absurd h (by decide)) ?_
       clear hK K hwn9 hg75 ha75
       have HE67 := Lib.hid (HE66.out.below HA75.out)
       have hne75 : b66 ≠ b75 := by
        obtain ⟨c, t, f, h1, h2⟩ := hk75
        have h3 := (HE66.out.1.lt b66 rfl).2
        have h4 := HA75.out.size
        omega
       refine oneH 4 (by rfl) (by kernel_rfl) (fun K hK => ?_)
       have HSZ4 : Hid (wj.heap.size <= wb.heap.size) := (hb2).size
       have HRW4 := Lib.hid (HE67.out)
       gi_wp2_with (gi_at_builtin; refine append_g (fun g => wj.heap.size <= g) 101 _ 7 136 info_rrec rfl (by decide) rfl _ _ _ Tryz.underlying31 rfl _ 0 [] (by rfl) HRW4.out _ ((os.take os.length).map encE) (by rfl) (HTK.out _ (hb2)) (by rw [List.length_map, List.length_take]; omega) (by omega) HSZ4.out ?_; intro v70 wc hrow70 hgr70)
       have hown70 : ∀ g, (Value.slice (some ⟨b66, 0, none⟩) 0 0).ownBlock = some g -> wj.heap.size <= g := fun g hg => HRW4.out.2 g hg
       have hc : Below wj.heap.size wj wc := (hb2).grown hgr70 (hb2).size hown70
       rw [List.nil_append, List.length_map, List.length_take, Nat.zero_add, Nat.min_eq_left hk] at hrow70
       have HR70 := Lib.hid hrow70
       have HGR70 := Lib.hid hgr70
       refine hK _ _ (fun _ => HXS.out _ (below5 HBJ.out hc)) ?_
       clear hK K hrow70 hgr70 HSZ4
       have HSZ9 : Hid (wj.heap.size <= wc.heap.size) := (hc).size
       have HRW9 := Lib.hid (HR70.out)
       have HGW9 := Lib.hid (GRd.grown75 HG75.out HGR70.out (by rintro g hg; simp only [Value.ownBlock, Option.some.injEq] at hg; omega))
       refine oneH 10 (by rfl) (by kernel_rfl) (fun K hK => ?_)
       gi_wp2_with (gi_at_builtin; refine append_g (fun g => wj.heap.size <= g) 101 _ 7 136 info_rrec rfl (by decide) rfl _ _ _ Tryz.underlying31 rfl _ os.length ((os.take os.length).map encE) (by rfl) HRW9.out _ [encE x] (by rfl) HGW9.out (by simp; omega) (by omega) HSZ9.out ?_; intro v76 wd hrow76 hgr76)
       have hd : Below wj.heap.size wj wd := (hc).grown hgr76 (hc).size (fun g hg => HRW9.out.2 g hg)
       have HR76 := Lib.hid hrow76
       refine hK _ _ (fun _ => HXS.out _ (below5 HBJ.out hd)) ?_
       clear hK K hrow76 hgr76 HSZ9
       refine oneH 11 (by rfl) (by kernel_rfl) (fun K hK => ?_)
       gi_wp2_with fail
       refine hK _ _ (fun h => absurd h (by decide)) ?_
       clear hK K
       refine doneH (by kernel_rfl) ?_
       have hfr := HR76.out
       rw [<- List.map_singleton (f := encE), <- List.map_append] at hfr
       apply FIN b66 b75 v70 v76 wd
       exact ⟨hfr, hd⟩
     ·gi_wp2_with fail
      obtain ⟨wa, hwn9⟩ : ∃ W, wj.alloc (.cells #[.slice p0 n0 q0, .int .u32 (x.1.2.ttl : Int), .int .i64 x.1.2.type, .slice p1 n1 q1, .slice p2 n2 q2, .slice p3 n3 q3, .slice p4 n4 q4] 101) = W := ⟨_, rfl⟩
      have ha : Below wj.heap.size wj wa := by rw [<- hwn9]; exact ((Below.refl wj.heap.size wj)).alloc ((Below.refl wj.heap.size wj)).size _
      obtain ⟨b75, hb75⟩ : ∃ b, wj.heap.size = b := ⟨_, rfl⟩
      have hg75 : GRd 7 (.slice (some ⟨b75, 0, none⟩) 1 1) [encE x] wa := by
       rw [<- hwn9, <- hb75, HEX.out]
       exact GRd.new [.slice p0 n0 q0, .int .u32 (x.1.2.ttl : Int), .int .i64 x.1.2.type, .slice p1 n1 q1, .slice p2 n2 q2, .slice p3 n3 q3, .slice p4 n4 q4] rfl (by simp [Value.oneCell']) wj 101
      have ha75 : Below wj.heap.size wj wa := by rw [<- hwn9]; exact (Below.refl _ _).alloc (Nat.le_refl _) _
      have hk75 : ∃ c t f, wa.heap[b75]? = some (.cells c t f) /\ b75 + 1 = wa.heap.size := by
       rw [<- hwn9, <- hb75]; exact ⟨_, _, _, World.alloc_heap_new wj _, by simp⟩
      rw [hwn9, hb75]
      have HG75 := Lib.hid hg75
      have HA75 := Lib.hid ha75
      refine hK _ _ (fun h => absurd h (by decide)) ?_
      clear hK K hwn9 hg75 ha75
      refine oneH 0 (by rfl) (by kernel_rfl) (fun K hK => ?_)
      gi_wp2_with fail
      obtain ⟨wb, hwn0⟩ : ∃ W, wa.alloc (.cells #[] 101) = W := ⟨_, rfl⟩
      have hb2 : Below wj.heap.size wj wb := by rw [<- hwn0]; exact (ha).alloc (ha).size _
      obtain ⟨b66, hb66⟩ : ∃ b, wa.heap.size = b := ⟨_, rfl⟩
      have hz66 : wj.heap.size <= b66 := by rw [<- hb66]; exact (ha).size
      have he66 : Row (fun g => wj.heap.size <= g) 101 7 (.slice (some ⟨b66, 0, none⟩) 0 0) 0 ([] : List (List Value)).flatten wb := by
       rw [<- hwn0, <- hb66]
       exact ⟨World.ownsRow_lit wa #[] 0 (Nat.zero_le _) (by unfold maxLen; omega) rfl, fun g hg => by cases hg; exact (ha).size⟩
      have hn66 : wa.heap.size = b66 := hb66
      have HA66 : Hid (Below wa.heap.size wa wb) := by show Below _ _ _; rw [<- hwn0]; exact (Below.refl _ _).alloc (Nat.le_refl _) _
      rw [hwn0, hb66]
      have HE66 := Lib.hid he66
      refine hK _ _ (fun _ => HXS.out _ (below5 HBJ.out hb2)) ?_
      clear hK K hwn0 hb66 he66
      have hne75 : b66 ≠ b75 := by
       obtain ⟨c, t, f, h1, h2⟩ := hk75
       have h3 := hn66
       omega
      refine oneH 4 (by rfl) (by kernel_rfl) (fun K hK => ?_)
      have HSZ4 : Hid (wj.heap.size <= wb.heap.size) := (hb2).size
      have HRW4 := Lib.hid (HE66.out)
      gi_wp2_with (gi_at_builtin; refine append_g (fun g => wj.heap.size <= g) 101 _ 7 136 info_rrec rfl (by decide) rfl _ _ _ Tryz.underlying31 rfl _ 0 [] (by rfl) HRW4.out _ ((os.take os.length).map encE) (by rfl) (HTK.out _ (hb2)) (by rw [List.length_map, List.length_take]; omega) (by omega) HSZ4.out ?_; intro v70 wc hrow70 hgr70)
      have hown70 : ∀ g, (Value.slice (some ⟨b66, 0, none⟩) 0 0).ownBlock = some g -> wj.heap.size <= g := fun g hg => HRW4.out.2 g hg
      have hc : Below wj.heap.size wj wc := (hb2).grown hgr70 (hb2).size hown70
      rw [List.nil_append, List.length_map, List.length_take, Nat.zero_add, Nat.min_eq_left hk] at hrow70
      have HR70 := Lib.hid hrow70
      have HGR70 := Lib.hid hgr70
      refine hK _ _ (fun _ => HXS.out _ (below5 HBJ.out hc)) ?_
      clear hK K hrow70 hgr70 HSZ4
      have HSZ9 : Hid (wj.heap.size <= wc.heap.size) := (hc).size
      have HRW9 := Lib.hid (HR70.out)
      have HGW9 := Lib.hid (GRd.grown75 (HG75.out.below HA66.out) HGR70.out (by rintro g hg; simp only [Value.ownBlock, Option.some.injEq] at hg; omega))
      refine oneH 10 (by rfl) (by kernel_rfl) (fun K hK => ?_)
      gi_wp2_with (gi_at_builtin; refine append_g (fun g => wj.heap.size <= g) 101 _ 7 136 info_rrec rfl (by decide) rfl _ _ _ Tryz.underlying31 rfl _ os.length ((os.take os.length).map encE) (by rfl) HRW9.out _ [encE x] (by rfl) HGW9.out (by simp; omega) (by omega) HSZ9.out ?_; intro v76 wd hrow76 hgr76)
      have hd : Below wj.heap.size wj wd := (hc).grown hgr76 (hc).size (fun g hg => HRW9.out.2 g hg)
      have HR76 := Lib.hid hrow76
      refine hK _ _ (fun _ => HXS.out _ (below5 HBJ.out hd)) ?_
      clear hK K hrow76 hgr76 HSZ9
      refine oneH 11 (by rfl) (by kernel_rfl) (fun K hK => ?_)
      gi_wp2_with fail
      refine hK _ _ (fun h => absurd h (by decide)) ?_
      clear hK K
      refine doneH (by kernel_rfl) ?_
      have hfr := HR76.out
      rw [<- List.map_singleton (f := encE), <- List.map_append] at hfr
      apply FIN b66 b75 v70 v76 wd
      exact ⟨hfr, hd⟩
    case h2 =>
     rintro b66 b75 v70 v76 W4 ⟨hr76, hb4⟩
     have HR76 := Lib.hid hr76
     have HB4 := Lib.hid (below5 HBJ.out hb4)
     have hro : GRd 7 (.slice ox os.length cx) (os.map encE) W4 := HGR.out.below hb4
     have HD0 := Lib.hid (fun hc => hro.drop0 os.length hk hc)
     have HD1 := Lib.hid (hro.drop os.length hk)
     have HD2 : Hid (∀ (o : Option Addr) (c : Nat), c = 0 -> GRd 7 (.slice o 0 c) ((os.map encE).drop os.length) W4) := fun o c h => by
      rw [List.drop_of_length_le (by rw [List.length_map]; exact Nat.le_refl _)]
      exact GRd.empty 7 o c h W4
     have HD3 : Hid (GRd 7 (.slice (if cx = os.length then ox else ox.map (·.add (os.length * 7))) 0 (cx - os.length)) ((os.map encE).drop os.length) W4) := by
      by_cases hc : cx = os.length
      ·rw [if_pos hc]; exact HD2.out _ _ (by omega)
      ·rw [if_neg hc]
       have h := hro.drop os.length hk
       rw [Nat.sub_self] at h
       exact h
     have HZ4 : Hid (w0.heap.size <= W4.heap.size) := HB4.out.size
     have HWJ : Hid (w0.heap.size <= wj.heap.size) := HBJ.out.size
     have hdl : ((os.map encE).drop os.length).length = os.length - os.length := by rw [List.length_drop, List.length_map]
     obtain ⟨av, cw, hv76⟩ := hr76.form
     subst hv76
     clear hr76 hb4 hro
     gi_wp2_with (gi_at_builtin; (refine append_g (fun g => w0.heap.size <= g) 101 _ 7 136 info_rrec rfl (by decide) rfl _ _ _ Tryz.underlying31 rfl _ (os.length + 1) ((os.take os.length ++ [x]).map encE) (by rfl) (HR76.out.mono (fun g hg => Nat.le_trans HWJ.out hg)) _ ((os.map encE).drop os.length) (by first | rfl) (by first | exact HD0.out (by assumption) | exact HD1.out | exact HD3.out | exact HD2.out _ _ rfl | exact HD2.out _ _ (by omega)) (by rw [hdl]; omega) (by omega) HZ4.out ?_); intro v81 w81 hrow81 hgr81; have HR81 := Lib.hid hrow81; have HG81 := Lib.hid hgr81; clear hrow81 hgr81)
     all_goals
      gi_wp2_with fail
      refine ⟨⟨i + 1, os.take os.length ++ x :: os.drop os.length, hlt, by go_num, by simp; omega, ?_, ?_, ?_⟩, by simp [intOf]; omega⟩
      ·show _ = _
       rw [HIN.out, HPS.out, HPT.out]
       first | (simp [plE]; done) | (rw [List.take_of_length_le (Nat.le_of_eq (plE_len os)), List.drop_of_length_le (Nat.le_of_eq (plE_len os)), List.take_length, List.drop_length]; simp [plE])
      ·exact HB4.out.grown HG81.out HB4.out.size (fun g hg => Nat.le_trans HWJ.out (HR76.out.2 g hg))
      ·have := HR81.out
       rw [hdl] at this
       rw [show (os.take os.length ++ x :: os.drop os.length).length = os.length + 1 + (os.length - os.length) by simp <;> omega, List.flatMap_def, show (os.take os.length ++ x :: os.drop os.length).map encE = (os.take os.length ++ [x]).map encE ++ (os.map encE).drop os.length by simp]
       exact this
end Go.Proofs.YtneghhbclefmoaaGreat
end
section
namespace Go.Proofs.YtneghhbclefmoaaGreat
open Go.RowKit Go.Shelf Go.Sort
set_option maxRecDepth 100000
theorem run_snoc_all (x : Rc.PRec) : ∀ (l : List Rc.PRec) (z : Rc.PRec), Rs.run x l = l.length -> Rs.run x (l ++ [z]) = if Rs.P x z then l.length + 1 else l.length
 | [], z, _ => by
  unfold Rs.run
  by_cases h : Rs.P x z = true <;> simp [h]
 | y :: l, z, h => by
  by_cases hy : Rs.P x y = true
  ·have h1 : Rs.run x l = l.length := by
    unfold Rs.run at h ⊢
    rw [List.takeWhile_cons_of_pos hy] at h
    simpa using h
   have ih := run_snoc_all x l z h1
   unfold Rs.run at ih ⊢
   rw [List.cons_append, List.takeWhile_cons_of_pos hy, List.length_cons, ih]
   split <;> simp
  ·unfold Rs.run at h
   rw [List.takeWhile_cons_of_neg hy] at h
   simp at h
theorem run_snoc_lt (x : Rc.PRec) : ∀ (l : List Rc.PRec) (z : Rc.PRec), Rs.run x l < l.length -> Rs.run x (l ++ [z]) = Rs.run x l
 | [], z, h => by simp at h
 | y :: l, z, h => by
  unfold Rs.run at h ⊢
  by_cases hy : Rs.P x y = true
  ·rw [List.takeWhile_cons_of_pos hy] at h
   have ih := run_snoc_lt x l z (by unfold Rs.run; simpa using h)
   unfold Rs.run at ih
   rw [List.cons_append, List.takeWhile_cons_of_pos hy, List.takeWhile_cons_of_pos hy, List.length_cons, List.length_cons, ih]
  ·rw [List.cons_append, List.takeWhile_cons_of_neg hy, List.takeWhile_cons_of_neg hy]
theorem grp_snoc {w : World} (x : El w) : ∀ (n : Nat) (L : List (El w)), L.length <= n -> L ≠ [] -> ∃ gs h t, grp L = gs ++ [h :: t] /\ grp (L ++ [x]) = if Rs.P h.1.2 x.1.2 then gs ++ [(h :: t) ++ [x]] else gs ++ [h :: t] ++ [[x]]
 | _, [], _, h => absurd rfl h
 | 0, y :: l, h, _ => by simp at h
 | n + 1, y :: l, hn, _ => by
  have hle := run_leE y l
  have hpos := run_posE y l
  have hp : plE ((y :: l) ++ [x]) = plE (y :: l) ++ [x.1.2] := plE_snoc _ _
  by_cases hr : Rs.run y.1.2 (plE (y :: l)) = (y :: l).length
  ·refine ⟨[], y, l, ?_, ?_⟩
   ·rw [grp_cons, hr, List.take_length, List.drop_length]; rfl
   ·have h1 := run_snoc_all y.1.2 (plE (y :: l)) x.1.2 (by rw [hr, plE_len])
    rw [plE_len] at h1
    show grp (y :: (l ++ [x])) = _
    rw [grp_cons]
    have h2 : Rs.run y.1.2 (plE (y :: (l ++ [x]))) = if Rs.P y.1.2 x.1.2 then (y :: l).length + 1 else (y :: l).length := by rw [<- h1, <- hp]; rfl
    rw [h2]
    split
    ·rw [List.take_of_length_le (by simp), List.drop_of_length_le (by simp)]; rfl
    ·rw [show y :: (l ++ [x]) = (y :: l) ++ [x] from rfl, List.take_left' rfl, List.drop_left' rfl, show ([x] : List (El w)) = x :: [] from rfl, grp_cons]
     have h3 : Rs.run x.1.2 (plE [x]) = 1 := by
      have a := run_leE x []; have b := run_posE x []
      simp at a; omega
     rw [h3]; rfl
  ·have hlt : Rs.run y.1.2 (plE (y :: l)) < (y :: l).length := by omega
   have h1 := run_snoc_lt y.1.2 (plE (y :: l)) x.1.2 (by rw [plE_len]; exact hlt)
   have h2 : Rs.run y.1.2 (plE (y :: (l ++ [x]))) = Rs.run y.1.2 (plE (y :: l)) := by rw [<- h1, <- hp]; rfl
   obtain ⟨gs, h, t, e1, e2⟩ := grp_snoc x n ((y :: l).drop (Rs.run y.1.2 (plE (y :: l)))) (by rw [List.length_drop]; omega) (by
    intro e
    have := congrArg List.length e
    rw [List.length_drop] at this
    simp only [List.length_nil] at this
    omega)
   refine ⟨(y :: l).take (Rs.run y.1.2 (plE (y :: l))) :: gs, h, t, ?_, ?_⟩
   ·rw [grp_cons, e1]; rfl
   ·show grp (y :: (l ++ [x])) = _
    rw [grp_cons, h2, show y :: (l ++ [x]) = (y :: l) ++ [x] from rfl, List.take_append_of_le_length hle, List.drop_append_of_le_length hle, e2]
    split <;> simp
theorem grp_one {w : World} (x : El w) : grp [x] = [[x]] := by
 rw [grp_cons]
 have a := run_leE x []; have b := run_posE x []
 have h3 : Rs.run x.1.2 (plE [x]) = 1 := by simp at a; omega
 rw [h3]; rfl
theorem ttl_snoc (x : Rc.PRec) (l : List Rc.PRec) (z : Rc.PRec) : Rs.ttl x (l ++ [z]) = min (Rs.ttl x l) z.ttl := by
 unfold Rs.ttl; rw [List.foldl_append]; rfl
def TyKept (e : TypeId) (W W' : World) : Prop := ∀ (k : Nat) (c : Array Value) (f : Nat × Nat), W.heap[k]? = some (Obj.cells c e f) -> W'.heap[k]? = some (Obj.cells c e f)
theorem TyKept.trans {e : TypeId} {A B C : World} (h : TyKept e A B) (k : TyKept e B C) : TyKept e A C := fun i c f hi => k i c f (h i c f hi)
theorem TyKept.below {e : TypeId} {W W' : World} (h : Below W.heap.size W W') : TyKept e W W' := fun k _c _f hk => (h.block k (Array.getElem?_eq_some_iff.1 hk).1).trans hk
theorem TyKept.grown {e t : TypeId} {W W' : World} {row : Option Nat} (h : W.grownBy W' row) (hr : ∀ g, row = some g -> ∃ c f, W.heap[g]? = some (.cells c t f)) (hne : t ≠ e) : TyKept e W W' := fun k c f hk => by
 refine (h.block k (Array.getElem?_eq_some_iff.1 hk).1 (fun e' => ?_)).trans hk
 obtain ⟨c', f', h1⟩ := hr k e'.symm
 rw [h1] at hk; cases hk; exact hne rfl
theorem TyKept.set {e t : TypeId} {W : World} {b o : Nat} (u : Value) (h : ∃ c f, W.heap[b]? = some (.cells c t f)) (hne : t ≠ e) : TyKept e W (W.setCell ⟨b, o, none⟩ u) := fun k c f hk => by
 refine (Below.heap_setCell _ _ _ _ (fun e' => ?_)).trans hk
 obtain ⟨c', f', h1⟩ := h
 have e' : k = b := e'
 subst e'
 rw [h1] at hk; cases hk; exact hne rfl
def RSetT {w : World} (cs : List Value) (k : List (El w)) (W : World) : Prop :=
 SetC cs k W /\ ∀ po t tt od n cd, cs = [po, t, tt, .slice od n cd] -> ∀ a, od = some a -> ∃ cur f, W.heap[a.block]? = some (.cells cur 99 f)
theorem RSetT.keep {w : World} {cs : List Value} {k : List (El w)} {W W' : World} (h : RSetT cs k W) (hk : TyKept 99 W W') : RSetT cs k W' := by
 obtain ⟨⟨x, xs, po, no, qo, od, cd, h1, h2, h3, h4⟩, h5⟩ := h
 refine ⟨⟨x, xs, po, no, qo, od, cd, h1, h2, h3, ?_⟩, fun po t tt od n cd e a ha => ?_⟩
 ·obtain ⟨o', cap', e0, d1, d2, d3, d4⟩ := h4
  refine ⟨o', cap', e0, d1, d2, d3, fun j hj => ?_⟩
  obtain ⟨a, ha, hc⟩ := d4 j hj
  cases e0
  obtain ⟨cur, f, hb⟩ := h5 _ _ _ _ _ _ h2 a ha
  refine ⟨a, ha, ?_⟩
  rw [<- hc]
  exact World.cell?_of_block (by rw [add_block, hb]; exact hk _ _ _ hb)
 ·obtain ⟨cur, f, hb⟩ := h5 _ _ _ _ _ _ e a ha
  exact ⟨cur, f, hk _ _ _ hb⟩
theorem info_rset : (Tryz.prog.info? 173).map (fun i => (i.zero, i.size, i.bytes)) = some (some (.agg #[.slice none 0 0, .int .i64 0, .int .u32 0, .slice none 0 0]), 4, 64) := by kernel_rfl
def RSM {w : World} (w1 : World) (vx : Value) (gs : List (List (El w))) (W : World) : Prop :=
 ∃ css : List (List Value), css.length = gs.length /\ Row (fun g => w1.heap.size <= g) 173 4 vx gs.length css.flatten W /\ ∀ i (h : i < css.length) (h' : i < gs.length), RSetT css[i] gs[i] W
theorem RSM.below {w w1 : World} {vx : Value} {gs : List (List (El w))} {W W' : World} (h : RSM w1 vx gs W) (hb : Below W.heap.size W W') : RSM w1 vx gs W' := by
 obtain ⟨css, h1, h2, h3⟩ := h
 exact ⟨css, h1, h2.below hb, fun i hi hi' => (h3 i hi hi').keep (.below hb)⟩
theorem RSM.form {w w1 : World} {vx : Value} {gs : List (List (El w))} {W : World} (h : RSM w1 vx gs W) : ∃ o cap, vx = .slice o gs.length cap /\ gs.length <= cap /\ cap <= 9223372036854775807 := by
 obtain ⟨css, h1, ⟨⟨_, ho⟩, _⟩, h3⟩ := h
 rcases ho with ⟨h1, h2⟩ | ⟨g', cap', cur, h1, _, _, h3, h4, _⟩
 ·exact ⟨none, 0, by rw [h1, h2], by omega, by omega⟩
 ·unfold maxLen at h4; exact ⟨_, _, h1, by omega, by omega⟩
theorem RSM.rd {w w1 : World} {vx : Value} {gs : List (List (El w))} {W : World} (h : RSM w1 vx gs W) : SetsRd vx gs W := by
 obtain ⟨css, h1, h2, h3⟩ := h
 refine ⟨css, Row.grd (by rw [h1]; exact h2) (fun c hc => ?_), h1, fun i hi hi' => (h3 i hi hi').1⟩
 obtain ⟨i, hi, rfl⟩ := List.getElem_of_mem hc
 exact (h3 i hi (by omega)).1.ok
theorem RSM.push {w w1 : World} {v' : Value} {gs : List (List (El w))} {css : List (List Value)} {cs : List Value} {k : List (El w)} {W W' : World} (hl : css.length = gs.length) (hrow : Row (fun g => w1.heap.size <= g) 173 4 v' (gs.length + 1) (css ++ [cs]).flatten W') (he : ∀ i (h : i < css.length) (h' : i < gs.length), RSetT css[i] gs[i] W) (hk : TyKept 99 W W') (hx : RSetT cs k W') : RSM w1 v' (gs ++ [k]) W' := by
 refine ⟨css ++ [cs], by simp [hl], by rw [List.length_append]; exact hrow, fun i hi hi' => ?_⟩
 by_cases h : i < gs.length
 ·rw [List.getElem_append_left (by omega), List.getElem_append_left h]
  exact (he i (by omega) h).keep hk
 ·have hi' : i < gs.length + 1 := by simpa using hi'
  have e : i = gs.length := by omega
  rw [List.getElem_append_right (by omega), List.getElem_append_right (by omega)]
  simpa [e, hl] using hx
theorem flat4_len : ∀ (css : List (List Value)), (∀ c ∈ css, c.length = 4) -> css.flatten.length = css.length * 4
 | [], _ => rfl
 | c :: css, h => by
  rw [List.flatten_cons, List.length_append, h c (by simp), flat4_len css (fun d hd => h d (by simp [hd])), List.length_cons]; omega
theorem flat4_get (css : List (List Value)) (cs : List Value) (m j : Nat) (hm : css.length = m) (h : ∀ c ∈ css, c.length = 4) : (css ++ [cs]).flatten[m * 4 + j]? = cs[j]? := by
 rw [List.flatten_append, List.getElem?_append_right (by rw [flat4_len css h]; omega), flat4_len css h, hm]
 simp
theorem flat4_set (css : List (List Value)) (cs : List Value) (m j : Nat) (u : Value) (hm : css.length = m) (h : ∀ c ∈ css, c.length = 4) : (css ++ [cs]).flatten.set (m * 4 + j) u = (css ++ [cs.set j u]).flatten := by
 rw [List.flatten_append, List.flatten_append, List.set_append_right _ _ (by rw [flat4_len css h]; omega), flat4_len css h, hm]
 simp
theorem RSM.last {w w1 : World} {vx : Value} {gs : List (List (El w))} {h : El w} {t : List (El w)} {W : World} (hm : RSM w1 vx (gs ++ [h :: t]) W) : ∃ css g cx po no qo od cd, vx = .slice (some ⟨g, 0, none⟩) (gs.length + 1) cx /\ w1.heap.size <= g /\ css.length = gs.length /\ (∀ c ∈ css, c.length = 4) /\ Row (fun g => w1.heap.size <= g) 173 4 vx (gs.length + 1) (css ++ [[.slice po no qo, .int .i64 h.1.2.type, .int .u32 ((Rs.ttl h.1.2 (plE (h :: t)) : Nat) : Int), .slice od (t.length + 1) cd]]).flatten W /\ (∀ i (h : i < css.length) (h' : i < gs.length), RSetT css[i] gs[i] W) /\ RSetT [.slice po no qo, .int .i64 h.1.2.type, .int .u32 ((Rs.ttl h.1.2 (plE (h :: t)) : Nat) : Int), .slice od (t.length + 1) cd] (h :: t) W /\ Rd (.slice po no qo) h.1.2.owner w /\ DatsRd (.slice od (t.length + 1) cd) (h :: t) W := by
 obtain ⟨css, h1, h2, h3⟩ := hm
 rw [List.length_append] at h1 h2
 simp only [List.length_cons, List.length_nil, Nat.zero_add] at h1 h2
 have hne : css ≠ [] := by rintro rfl; simp at h1
 obtain ⟨css', cs, rfl⟩ : ∃ a b, css = a ++ [b] := ⟨css.dropLast, css.getLast hne, (List.dropLast_concat_getLast hne).symm⟩
 have hl : css'.length = gs.length := by simpa using h1
 obtain ⟨g, cx, e⟩ := h2.some_block (by omega)
 have hlast := h3 gs.length (by simp [hl]) (by simp)
 rw [List.getElem_append_right (by omega), List.getElem_append_right (by omega)] at hlast
 simp only [hl, Nat.sub_self, List.getElem_cons_zero] at hlast
 have hall : ∀ i (h : i < css'.length) (h' : i < gs.length), RSetT css'[i] gs[i] W := fun i hi hi' => by
  have := h3 i (by simp; omega) (by simp; omega)
  rwa [List.getElem_append_left hi, List.getElem_append_left hi'] at this
 have hlast' := hlast
 obtain ⟨⟨x, xs, po, no, qo, od, cd, e1, e2, e3, e4⟩, h5⟩ := hlast'
 cases e1
 subst e2
 refine ⟨css', g, cx, po, no, qo, od, cd, e, h2.2 g (by rw [e]; rfl), hl, fun c hc => ?_, h2, hall, hlast, e3, e4⟩
 obtain ⟨i, hi, rfl⟩ := List.getElem_of_mem hc
 exact (hall i hi (by omega)).1.ok.1
def RSetsR {w : World} (l : List (El w)) (w0 : World) (e : Ending) (w' : World) : Prop :=
 ∃ (c : List (El w)) (v' : Value), plE c = Rc.canon (plE l) /\ c.length <= l.length /\ e = .returned v' /\ SetsRd v' (grp c) w' /\ Below w0.heap.size w0 w'
end Go.Proofs.YtneghhbclefmoaaGreat
end
section
namespace Go.Proofs.YtneghhbclefmoaaGreat
open Go.RowKit Go.Shelf Go.Sort
set_option maxRecDepth 100000
theorem finQ6 {G : Prop} {A B C D E H : Type} (F : A -> B -> C -> D -> E -> H -> Prop) (Q : A -> B -> C -> D -> E -> H -> Prop) (h1 : (∀ a b c d e f, F a b c d e f -> Q a b c d e f) -> G) (h2 : ∀ a b c d e f, F a b c d e f -> Q a b c d e f) : G := h1 h2
set_option maxHeartbeats 8000000 in
theorem refSets_any {w w0 : World} (v : Value) (l : List (El w)) (hb0 : Below w.heap.size w w0) (hv : RecsRd v (l.map (·.1)) w0) (na : l.length <= 1000) :
  Calls Tryz.prog 91 #[v] w0 (RSetsR l w0) := by
 have HC := Lib.hid (refCanon_any v l hb0 hv na)
 have HB0 := Lib.hid hb0
 clear hv hb0
 refine (callsIn_wide (n := 0)).1 ?_
 refine callsIn_of_wp Tryz.func91 rfl trivial ?_ rfl
 simp only [Tryz.ntmps91, List.size_toArray, List.length_cons, List.length_nil, Nat.reduceAdd, Nat.reduceSub, Array.replicate_succ, Array.replicate_zero, List.push_toArray, List.append_toArray, List.nil_append, List.cons_append]
 gi_wp2_with (gi_at_call 49; refine (callsIn_wide.2 HC.out).mono ?_; rintro e9 w1 ⟨c, v', hc1, hc2, rfl, hc4, hc5⟩)
 obtain ⟨ov, cv, rfl⟩ : ∃ o cap, v' = .slice o c.length cap := by obtain ⟨_, o, cap, h, _⟩ := hc4; exact ⟨o, cap, by rw [h, List.length_map]⟩
 have HV := Lib.hid hc4.el
 have HP := Lib.hid hc1
 have HB1 := Lib.hid hc5
 have HCL := Lib.hid hc2
 have HW1 : Hid (Below w.heap.size w w1) := below5 HB0.out hc5
 have na : c.length <= 1000 := by omega
 have lz : (c.length : Int) <= 1000 := by omega
 clear hc1 hc2 hc4 hc5
 gi_wp2_with fail
 gi_loopw [3, 5] (fun vx vi W => ∃ (i : Nat) (gs : List (List (El w))), i <= c.length /\ vi = .int .i64 i /\ Hid (gs = grp (c.take i)) /\ gs.length <= i /\ Below w1.heap.size w1 W /\ RSM w1 vx gs W) (fun _ vi _ => c.length - (intOf vi).toNat)
 case atStart => exact ⟨0, [], Nat.zero_le _, rfl, rfl, Nat.le_refl _, Below.refl _ _, ⟨[], rfl, Row.nil _ _ _ _, fun i h => absurd h (by simp)⟩⟩
 case round =>
  obtain ⟨i, gs, hi, rfl, HI, hgs, hb, hrsm⟩ := hrel
  have HB := Lib.hid hb
  have HR := Lib.hid hrsm
  obtain ⟨ox, cx, rfl, hcx1, hcx2⟩ := hrsm.form
  clear hb hrsm
  by_cases hlt : i < c.length
  case neg =>
   have hlz : ¬ ((i : Int) < (c.length : Int)) := by omega
   obtain rfl : i = c.length := by omega
   gi_wp2_with fail
   go_ret
   have h1 : gs = grp (c.take c.length) := HI.out
   rw [List.take_length] at h1
   refine ⟨c, _, HP.out, HCL.out, rfl, ?_, below5 HB1.out HB.out⟩
   rw [<- h1]; exact HR.out.rd
  case pos =>
  have hlz : (i : Int) < (c.length : Int) := by omega
  obtain ⟨x, hx⟩ : ∃ x, c[i] = x := ⟨_, rfl⟩
  obtain ⟨p0, n0, q0, p1, n1, q1, p2, n2, q2, p3, n3, q3, p4, n4, q4, ex⟩ := x.cells
  have HCE : Hid (∀ W', Below w1.heap.size w1 W' -> ∃ a, ov = some a /\ W'.cell? (a.add (i * 7)) = some (.slice p0 n0 q0) /\ W'.cell? ⟨(a.add (i * 7)).block, (a.add (i * 7)).off + 1, none⟩ = some (.int .u32 (x.1.2.ttl : Int)) /\ W'.cell? ⟨(a.add (i * 7)).block, (a.add (i * 7)).off + 2, none⟩ = some (.int .i64 x.1.2.type) /\ W'.cell? ⟨(a.add (i * 7)).block, (a.add (i * 7)).off + 3, none⟩ = some (.slice p1 n1 q1) /\ W'.cell? ⟨(a.add (i * 7)).block, (a.add (i * 7)).off + 4, none⟩ = some (.slice p2 n2 q2) /\ W'.cell? ⟨(a.add (i * 7)).block, (a.add (i * 7)).off + 5, none⟩ = some (.slice p3 n3 q3) /\ W'.cell? ⟨(a.add (i * 7)).block, (a.add (i * 7)).off + 6, none⟩ = some (.slice p4 n4 q4)) := fun W' hW => HV.out W' hW i hlt _ _ _ _ _ _ _ (by rw [hx]; exact ex)
  obtain ⟨ga, rfl, _⟩ := HCE.out _ HB.out
  obtain ⟨e, he⟩ : ∃ e, ga.add (i * 7) = e := ⟨_, rfl⟩
  have HXS : Hid (∀ W', Below w1.heap.size w1 W' -> Cs [(e, .slice p0 n0 q0), (⟨e.block, e.off + 1, none⟩, .int .u32 (x.1.2.ttl : Int)), (⟨e.block, e.off + 2, none⟩, .int .i64 x.1.2.type), (⟨e.block, e.off + 3, none⟩, .slice p1 n1 q1), (⟨e.block, e.off + 4, none⟩, .slice p2 n2 q2), (⟨e.block, e.off + 5, none⟩, .slice p3 n3 q3), (⟨e.block, e.off + 6, none⟩, .slice p4 n4 q4), (⟨e.block, e.off + 2 + 1, none⟩, .slice p1 n1 q1), (⟨e.block, e.off + 2 + 2, none⟩, .slice p2 n2 q2), (⟨e.block, e.off + 2 + 3, none⟩, .slice p3 n3 q3), (⟨e.block, e.off + 2 + 4, none⟩, .slice p4 n4 q4)] W') := fun W' hW => by
   obtain ⟨a, ha, h0, h1, h2, h3, h4, h5, h6⟩ := HCE.out W' hW
   cases ha
   rw [he] at h0 h1 h2 h3 h4 h5 h6
   exact ⟨h0, h1, h2, h3, h4, h5, h6, h3, h4, h5, h6, trivial⟩
  have htk : c.take (i + 1) = c.take i ++ [x] := by rw [List.take_succ_eq_append_getElem hlt, hx]
  have hxr : RecRd [.slice p0 n0 q0, .int .u32 (x.1.2.ttl : Int), .int .i64 x.1.2.type, .slice p1 n1 q1, .slice p2 n2 q2, .slice p3 n3 q3, .slice p4 n4 q4] x.1.2 w := by have h := x.2.1; rw [show x.1.1 = _ from ex] at h; exact h
  have HXO : Hid (Rd (.slice p0 n0 q0) x.1.2.owner w) := by
   obtain ⟨vo, ds, h0, h1, h2⟩ := hxr
   cases h0; exact h1
  have HED : Hid (encD x = [.int .i64 x.1.2.type, .slice p1 n1 q1, .slice p2 n2 q2, .slice p3 n3 q3, .slice p4 n4 q4]) := by show encD x = _; unfold encD; rw [ex]; rfl
  have HTK := Lib.hid htk
  have HXN : Hid (NB x.1.2.owner) := x.2.2.owner
  clear hx ex htk hxr
  generalize wr = wo at *
  by_cases hi0 : i = 0
  ·subst hi0
   have hg0 : gs = [] := by have h : gs = _ := HI.out; rw [h, List.take_zero]; rfl
   subst hg0
   have HNX : Hid (grp (c.take (0 + 1)) = [] ++ [[x]]) := by show grp _ = _; rw [HTK.out, List.take_zero]; exact grp_one x
   obtain ⟨css, hcss, hrow, hel⟩ := HR.out
   obtain rfl : css = [] := List.length_eq_zero_iff.1 hcss
   have HROW := Lib.hid hrow
   clear hrow hcss hel
   gi_wp2_with fail
   refine drawnH (List.range 29) (fun _ => True) 29 rfl (by kernel_rfl) ?_
   intro wa hwa
   have HBA : Hid (Below w1.heap.size w1 wa) := by subst hwa; exact HB.out.drew
   have HRA := Lib.hid (HROW.out.below (show Below wo.heap.size wo wa by subst hwa; exact (Below.refl wo.heap.size wo).drew))
   have hS : True := trivial
   clear hwa
   refine tH 0 ?rav0 hS (fun w1 _ => ?ray0) ?_
   case ray0 => go_simp; try rfl
   refine tH 1 ?rav1 hS (fun w1 _ => ?ray1) ?_
   case ray1 => go_simp; try rfl
   refine tH 2 ?rav2 hS (fun w1 _ => ?ray2) ?_
   case ray2 => go_simp; try rfl
   simp only [Act.put, List.setIfInBounds_toArray, List.set_cons_succ, List.set_cons_zero]
   refine tU 3 hS ?_
   refine tU 4 hS ?_
   refine tU 5 hS ?_
   refine tU 6 hS ?_
   refine tU 7 hS ?_
   refine tU 8 hS ?_
   refine tU 9 hS ?_
   refine tU 10 hS ?_
   simp only [Act.put, List.setIfInBounds_toArray, List.set_cons_succ, List.set_cons_zero]
   refine tU 11 hS ?_
   refine tU 12 hS ?_
   refine tU 13 hS ?_
   simp only [Act.put, List.setIfInBounds_toArray, List.set_cons_succ, List.set_cons_zero]
   refine tH 14 ?rav14 hS (fun w1 _ => ?ray14) ?_
   case ray14 => go_simp; try rfl
   refine tH 15 ?rav15 hS (fun w1 _ => ?ray15) ?_
   case ray15 => go_simp; try rfl
   simp only [Act.put, List.setIfInBounds_toArray, List.set_cons_succ, List.set_cons_zero]
   refine tU 16 hS ?_
   refine tU 17 hS ?_
   refine tU 18 hS ?_
   refine tU 19 hS ?_
   refine tU 20 hS ?_
   refine tU 21 hS ?_
   refine tU 22 hS ?_
   refine tU 23 hS ?_
   simp only [Act.put, List.setIfInBounds_toArray, List.set_cons_succ, List.set_cons_zero]
   refine tU 24 hS ?_
   refine tU 25 hS ?_
   refine tU 26 hS ?_
   refine tU 27 hS ?_
   simp only [Act.put, List.setIfInBounds_toArray, List.set_cons_succ, List.set_cons_zero]
   refine tH 28 ?rav28 hS (fun w1 _ => ?ray28) ?_
   case ray28 => go_simp; try rfl
   simp only [Act.put, List.setIfInBounds_toArray, List.set_cons_succ, List.set_cons_zero]
   refine doneH (by kernel_rfl) ?_
   clear hS
   gi_wp2_with fail
   refine drawnH (List.range 26) (Cs [(e, .slice p0 n0 q0), (⟨e.block, e.off + 1, none⟩, .int .u32 (x.1.2.ttl : Int)), (⟨e.block, e.off + 2, none⟩, .int .i64 x.1.2.type), (⟨e.block, e.off + 3, none⟩, .slice p1 n1 q1), (⟨e.block, e.off + 4, none⟩, .slice p2 n2 q2), (⟨e.block, e.off + 5, none⟩, .slice p3 n3 q3), (⟨e.block, e.off + 6, none⟩, .slice p4 n4 q4), (⟨e.block, e.off + 2 + 1, none⟩, .slice p1 n1 q1), (⟨e.block, e.off + 2 + 2, none⟩, .slice p2 n2 q2), (⟨e.block, e.off + 2 + 3, none⟩, .slice p3 n3 q3), (⟨e.block, e.off + 2 + 4, none⟩, .slice p4 n4 q4)]) 27 rfl (by kernel_rfl) ?_
   intro wj hwj
   have HBJ : Hid (Below w1.heap.size w1 wj) := by subst hwj; exact (HBA.out).drew
   have HBW : Hid (Below wa.heap.size wa wj) := by subst hwj; exact (Below.refl wa.heap.size wa).drew
   have hS : Cs [(e, .slice p0 n0 q0), (⟨e.block, e.off + 1, none⟩, .int .u32 (x.1.2.ttl : Int)), (⟨e.block, e.off + 2, none⟩, .int .i64 x.1.2.type), (⟨e.block, e.off + 3, none⟩, .slice p1 n1 q1), (⟨e.block, e.off + 4, none⟩, .slice p2 n2 q2), (⟨e.block, e.off + 5, none⟩, .slice p3 n3 q3), (⟨e.block, e.off + 6, none⟩, .slice p4 n4 q4), (⟨e.block, e.off + 2 + 1, none⟩, .slice p1 n1 q1), (⟨e.block, e.off + 2 + 2, none⟩, .slice p2 n2 q2), (⟨e.block, e.off + 2 + 3, none⟩, .slice p3 n3 q3), (⟨e.block, e.off + 2 + 4, none⟩, .slice p4 n4 q4)] wj := HXS.out wj HBJ.out
   clear hwj
   refine tH 0 ?rbv0 hS (fun w1 ⟨x0, x1, x2, x3, x4, x5, x6, x7, x8, x9, x10, _⟩ => ?rby0) ?_
   case rby0 => go_simp; try rfl
   refine tH 1 ?rbv1 hS (fun w1 ⟨x0, x1, x2, x3, x4, x5, x6, x7, x8, x9, x10, _⟩ => ?rby1) ?_
   case rby1 => go_simp; try rfl
   refine tH 2 ?rbv2 hS (fun w1 ⟨x0, x1, x2, x3, x4, x5, x6, x7, x8, x9, x10, _⟩ => ?rby2) ?_
   case rby2 => go_simp; try rfl
   refine tH 3 ?rbv3 hS (fun w1 ⟨x0, x1, x2, x3, x4, x5, x6, x7, x8, x9, x10, _⟩ => ?rby3) ?_
   case rby3 => go_simp; try rfl
   refine tH 4 ?rbv4 hS (fun w1 ⟨x0, x1, x2, x3, x4, x5, x6, x7, x8, x9, x10, _⟩ => ?rby4) ?_
   case rby4 => go_simp; try rfl
   refine tH 5 ?rbv5 hS (fun w1 ⟨x0, x1, x2, x3, x4, x5, x6, x7, x8, x9, x10, _⟩ => ?rby5) ?_
   case rby5 => go_simp; try rfl
   refine tH 6 ?rbv6 hS (fun w1 ⟨x0, x1, x2, x3, x4, x5, x6, x7, x8, x9, x10, _⟩ => ?rby6) ?_
   case rby6 => go_simp; try rfl
   refine tH 7 ?rbv7 hS (fun w1 ⟨x0, x1, x2, x3, x4, x5, x6, x7, x8, x9, x10, _⟩ => ?rby7) ?_
   case rby7 => go_simp; try rfl
   simp only [Act.put, List.setIfInBounds_toArray, List.set_cons_succ, List.set_cons_zero]
   refine tH 8 ?rbv8 hS (fun w1 ⟨x0, x1, x2, x3, x4, x5, x6, x7, x8, x9, x10, _⟩ => ?rby8) ?_
   case rby8 => go_simp; try rfl
   refine tH 9 ?rbv9 hS (fun w1 ⟨x0, x1, x2, x3, x4, x5, x6, x7, x8, x9, x10, _⟩ => ?rby9) ?_
   case rby9 => go_simp; try rfl
   refine tH 10 ?rbv10 hS (fun w1 ⟨x0, x1, x2, x3, x4, x5, x6, x7, x8, x9, x10, _⟩ => ?rby10) ?_
   case rby10 => go_simp; try rfl
   refine tH 11 ?rbv11 hS (fun w1 ⟨x0, x1, x2, x3, x4, x5, x6, x7, x8, x9, x10, _⟩ => ?rby11) ?_
   case rby11 => go_simp; try rfl
   refine tH 12 ?rbv12 hS (fun w1 ⟨x0, x1, x2, x3, x4, x5, x6, x7, x8, x9, x10, _⟩ => ?rby12) ?_
   case rby12 => go_simp; try rfl
   refine tH 13 ?rbv13 hS (fun w1 ⟨x0, x1, x2, x3, x4, x5, x6, x7, x8, x9, x10, _⟩ => ?rby13) ?_
   case rby13 => go_simp; try rfl
   refine tH 14 ?rbv14 hS (fun w1 ⟨x0, x1, x2, x3, x4, x5, x6, x7, x8, x9, x10, _⟩ => ?rby14) ?_
   case rby14 => go_simp; try rfl
   refine tH 15 ?rbv15 hS (fun w1 ⟨x0, x1, x2, x3, x4, x5, x6, x7, x8, x9, x10, _⟩ => ?rby15) ?_
   case rby15 => go_simp; try rfl
   simp only [Act.put, List.setIfInBounds_toArray, List.set_cons_succ, List.set_cons_zero]
   refine tH 16 ?rbv16 hS (fun w1 ⟨x0, x1, x2, x3, x4, x5, x6, x7, x8, x9, x10, _⟩ => ?rby16) ?_
   case rby16 => go_simp; try rfl
   refine tH 17 ?rbv17 hS (fun w1 ⟨x0, x1, x2, x3, x4, x5, x6, x7, x8, x9, x10, _⟩ => ?rby17) ?_
   case rby17 => go_simp; try rfl
   refine tH 18 ?rbv18 hS (fun w1 ⟨x0, x1, x2, x3, x4, x5, x6, x7, x8, x9, x10, _⟩ => ?rby18) ?_
   case rby18 => go_simp; try rfl
   refine tH 19 ?rbv19 hS (fun w1 ⟨x0, x1, x2, x3, x4, x5, x6, x7, x8, x9, x10, _⟩ => ?rby19) ?_
   case rby19 => go_simp; try rfl
   refine tH 20 ?rbv20 hS (fun w1 ⟨x0, x1, x2, x3, x4, x5, x6, x7, x8, x9, x10, _⟩ => ?rby20) ?_
   case rby20 => go_simp; try rfl
   refine tH 21 ?rbv21 hS (fun w1 ⟨x0, x1, x2, x3, x4, x5, x6, x7, x8, x9, x10, _⟩ => ?rby21) ?_
   case rby21 => go_simp; try rfl
   simp only [Act.put, List.setIfInBounds_toArray, List.set_cons_succ, List.set_cons_zero]
   refine oneH 22 (by rfl) (by kernel_rfl) (fun K hK => ?_)
   gi_wp2_with fail
   obtain ⟨wk, hwk⟩ : ∃ W, wj.alloc (.cells #[.int .i64 x.1.2.type, .slice p1 n1 q1, .slice p2 n2 q2, .slice p3 n3 q3, .slice p4 n4 q4] 99) = W := ⟨_, rfl⟩
   obtain ⟨b107, hb107⟩ : ∃ b, wj.heap.size = b := ⟨_, rfl⟩
   have hg107 : GRd 5 (.slice (some ⟨b107, 0, none⟩) 1 1) [encD x] wk := by
    rw [<- hwk, <- hb107, HED.out]
    exact GRd.new [.int .i64 x.1.2.type, .slice p1 n1 q1, .slice p2 n2 q2, .slice p3 n3 q3, .slice p4 n4 q4] rfl (by simp [Value.oneCell']) wj 99
   have ha107 : Below wj.heap.size wj wk := by rw [<- hwk]; exact (Below.refl _ _).alloc (Nat.le_refl _) _
   have hk107 : ∃ c f, wk.heap[b107]? = some (.cells c 99 f) := by
    rw [<- hwk, <- hb107]; exact ⟨_, _, World.alloc_heap_new wj _⟩
   rw [hwk, hb107]
   have HG107 := Lib.hid hg107
   have HA107 := Lib.hid ha107
   have HK107 := Lib.hid hk107
   have HBK := Lib.hid (below5 HBJ.out ha107)
   have HWK := Lib.hid (below5 HBW.out ha107)
   refine hK _ _ (fun _ => HXS.out _ HBK.out) ?_
   clear hK K hwk hb107 hg107 ha107 hk107
   refine oneH 23 (by rfl) (by kernel_rfl) (fun K hK => ?_)
   gi_wp2_with fail
   refine hK _ _ (fun _ => HXS.out _ HBK.out) ?_
   clear hK K
   refine oneH 24 (by rfl) (by kernel_rfl) (fun K hK => ?_)
   gi_wp2_with fail
   obtain ⟨wl, hwl⟩ : ∃ W, wk.alloc (.cells #[.slice p0 n0 q0, .int .i64 x.1.2.type, .int .u32 (x.1.2.ttl : Int), .slice (some ⟨b107, 0, none⟩) 1 1] 173) = W := ⟨_, rfl⟩
   obtain ⟨b109, hb109⟩ : ∃ b, wk.heap.size = b := ⟨_, rfl⟩
   have hg109 : GRd 4 (.slice (some ⟨b109, 0, none⟩) 1 1) [[.slice p0 n0 q0, .int .i64 x.1.2.type, .int .u32 (x.1.2.ttl : Int), .slice (some ⟨b107, 0, none⟩) 1 1]] wl := by
    rw [<- hwl, <- hb109]
    exact GRd.new [.slice p0 n0 q0, .int .i64 x.1.2.type, .int .u32 (x.1.2.ttl : Int), .slice (some ⟨b107, 0, none⟩) 1 1] rfl (by simp [Value.oneCell']) wk 173
   have ha109 : Below wk.heap.size wk wl := by rw [<- hwl]; exact (Below.refl _ _).alloc (Nat.le_refl _) _
   rw [hwl, hb109]
   have HG109 := Lib.hid hg109
   have HA109 := Lib.hid ha109
   have HBL := Lib.hid (below5 HBK.out ha109)
   have HWL := Lib.hid (below5 HWK.out ha109)
   refine hK _ _ (fun _ => HXS.out _ HBL.out) ?_
   clear hK K hwl hb109 hg109 ha109
   have HRL := Lib.hid ((HRA.out).below HWL.out)
   have HSZ : Hid (w1.heap.size <= wl.heap.size) := HBL.out.size
   refine oneH 25 (by rfl) (by kernel_rfl) (fun K hK => ?_)
   gi_wp2_with (gi_at_builtin; go_loud (refine append_g (fun g => w1.heap.size <= g) 173 _ 4 64 info_rset rfl (by decide) rfl _ _ _ Tryz.underlying170 rfl _ (0) [] (by rfl) HRL.out _ [[.slice p0 n0 q0, .int .i64 x.1.2.type, .int .u32 (x.1.2.ttl : Int), .slice (some ⟨b107, 0, none⟩) 1 1]] (by rfl) HG109.out (by simp <;> omega) (by omega) HSZ.out ?_); intro v110 wm hrow110 hgr110; have HR110 := Lib.hid hrow110; have HG110 := Lib.hid hgr110; clear hrow110 hgr110)
   refine hK _ _ (fun _ => HXS.out _ (HBL.out.grown HG110.out HBL.out.size (fun g hg => HRL.out.2 g hg))) ?_
   clear hK K
   refine oneH 26 (by rfl) (by kernel_rfl) (fun K hK => ?_)
   gi_wp2_with fail
   refine hK _ _ (fun h => absurd h (by decide)) ?_
   clear hK K
   refine doneH (by kernel_rfl) ?_
   clear hS
   gi_wp2_with fail
   refine ⟨⟨0 + 1, ([] : List (List (El w))) ++ [[x]], hlt, by go_num, ?_, by first | (simp; done) | (have hm' : gs'.length = m := HGM.out; simp; omega), HBL.out.grown HG110.out HBL.out.size (fun g hg => HRL.out.2 g hg), ?_⟩, by simp [intOf] <;> omega⟩
   ·exact (HNX.out).symm
   ·have hty : TyKept 99 wl wm := TyKept.grown HG110.out (fun g hg => Row.typ HRL.out hg) (by decide)
    refine RSM.push (gs := ([] : List (List (El w)))) rfl HR110.out (fun i h => absurd h (by simp)) ((TyKept.below HWL.out).trans hty) ⟨⟨x, [], _, _, _, _, _, rfl, by rw [show Rs.ttl x.1.2 (plE [x]) = x.1.2.ttl from Nat.min_self _]; rfl, HXO.out, ?_⟩, fun po t tt od n cd e a ha => ?_⟩
    ·have hd : GRd 5 (.slice (some ⟨b107, 0, none⟩) 1 1) [encD x] wm := GRd.grown75 (HG107.out.below HA109.out) HG110.out (fun g' hg' e' => by
      obtain ⟨c1, f1, h1⟩ := Row.typ HRL.out hg'
      obtain ⟨c2, f2, h2⟩ := HK107.out
      have h3 := (TyKept.below HA109.out) _ _ _ h2
      rw [e', h3] at h1
      have h4 := Option.some.inj h1
      injection h4 with _ h5 _
      exact absurd h5 (by decide))
     exact datsRd_of (l := [x]) hd
    ·cases e; cases ha
     obtain ⟨c, f, h⟩ := HK107.out
     exact ⟨_, _, hty _ _ _ ((TyKept.below HA109.out) _ _ _ h)⟩
  ·obtain ⟨gs', h, t, e1, e2⟩ := grp_snoc x (c.take i).length (c.take i) (Nat.le_refl _) (by rw [ne_eq, List.take_eq_nil_iff]; intro h; rcases h with h | h <;> first | exact hi0 h | (rw [h] at hlt; simp at hlt))
   rw [<- HTK.out] at e2
   obtain rfl : gs = gs' ++ [h :: t] := Eq.trans HI.out e1
   obtain ⟨css, g, cx', po, no, qo, od, cd, e3, hg, hcss, hc4, hrow, hel, hlast, hro, hdat⟩ := HR.out.last
   have hlen : (gs' ++ [h :: t]).length = gs'.length + 1 := by simp
   simp only [Value.slice.injEq] at e3
   obtain ⟨rfl, -, rfl⟩ := e3
   obtain ⟨m, hm⟩ : ∃ m, gs'.length = m := ⟨_, rfl⟩
   obtain ⟨ht, hht⟩ : ∃ n, Rs.ttl h.1.2 (plE (h :: t)) = n := ⟨_, rfl⟩
   rw [hlen] at hgs hcx1
   rw [hht] at hlast
   rw [hht, hlen] at hrow
   rw [hlen]
   rw [hm] at hrow hgs hcx1 hcss
   rw [hm]
   have HROW := Lib.hid hrow
   have HEL := Lib.hid hel
   have HCS := Lib.hid hcss
   have HC4 := Lib.hid hc4
   have HGM : Hid (gs'.length = m) := hm
   have HHT : Hid (Rs.ttl h.1.2 (plE (h :: t)) = ht) := hht
   have HLN : Hid ((gs' ++ [h :: t]).length = m + 1) := by show _ = _; rw [hlen, hm]
   have HLA : Hid ((css ++ [[Value.slice po no qo, .int .i64 h.1.2.type, .int .u32 (ht : Int), .slice od (t.length + 1) cd]]).length = (gs' ++ [h :: t]).length) := by show _ = _; simp [hcss, hm]
   have HEA0 : Hid (∀ j (h1 : j < (css ++ [[Value.slice po no qo, .int .i64 h.1.2.type, .int .u32 (ht : Int), .slice od (t.length + 1) cd]]).length) (h2 : j < (gs' ++ [h :: t]).length), RSetT (css ++ [[Value.slice po no qo, .int .i64 h.1.2.type, .int .u32 (ht : Int), .slice od (t.length + 1) cd]])[j] (gs' ++ [h :: t])[j] wo) := fun j h1 h2 => by
    by_cases hj : j < m
    ·rw [List.getElem_append_left (by omega), List.getElem_append_left (by omega)]
     exact hel j (by omega) (by omega)
    ·have hj' : j = m := by rw [hlen] at h2; omega
     rw [List.getElem_append_right (by omega), List.getElem_append_right (by omega)]
     simpa [hj', hm, hcss] using hlast
   have HTL : Hid (t.length < c.length) := by
    have h9 := congrArg (fun L => (List.flatten L).length) e1
    simp only [grp_flat, List.flatten_append, List.length_append, List.flatten_cons, List.flatten_nil, List.length_cons, List.length_take, List.append_nil] at h9
    show _ < _
    omega
   have HRO := Lib.hid hro
   have HDAT := Lib.hid hdat
   have HG := Lib.hid hg
   have HE2 := Lib.hid e2
   have hmz : (m : Int) < 1000 := by omega
   have HOS : Hid (∀ W', Below wo.heap.size wo W' -> Cs [(⟨g, m * 4, none⟩, Value.slice po no qo), (⟨g, m * 4 + 1, none⟩, .int .i64 h.1.2.type), (⟨g, m * 4 + 2, none⟩, .int .u32 (ht : Int)), (⟨g, m * 4 + 3, none⟩, .slice od (t.length + 1) cd), (e, .slice p0 n0 q0), (⟨e.block, e.off + 1, none⟩, .int .u32 (x.1.2.ttl : Int)), (⟨e.block, e.off + 2, none⟩, .int .i64 x.1.2.type), (⟨e.block, e.off + 3, none⟩, .slice p1 n1 q1), (⟨e.block, e.off + 4, none⟩, .slice p2 n2 q2), (⟨e.block, e.off + 5, none⟩, .slice p3 n3 q3), (⟨e.block, e.off + 6, none⟩, .slice p4 n4 q4), (⟨e.block, e.off + 2 + 1, none⟩, .slice p1 n1 q1), (⟨e.block, e.off + 2 + 2, none⟩, .slice p2 n2 q2), (⟨e.block, e.off + 2 + 3, none⟩, .slice p3 n3 q3), (⟨e.block, e.off + 2 + 4, none⟩, .slice p4 n4 q4)] W') := fun W' hW => by
    have hr := HROW.out.below hW
    have hb : ∀ j, j < 4 -> W'.cell? ⟨g, m * 4 + j, none⟩ = _ := fun j hj => ((Row.cellAt hr (m * 4 + j) (by omega)).1).trans (flat4_get css _ m j HCS.out HC4.out)
    exact ⟨hb 0 (by omega), hb 1 (by omega), hb 2 (by omega), hb 3 (by omega), HXS.out W' (below5 HB.out hW)⟩
   obtain ⟨z, hz⟩ : ∃ z, Nm.same h.1.2.owner x.1.2.owner = z := ⟨_, rfl⟩
   have HZ := Lib.hid hz
   have HSM : Hid (∀ W', Below wo.heap.size wo W' -> Calls Tryz.prog 63 #[.slice po no qo, .slice p0 n0 q0] W' (Gives (.bool z) W')) := fun W' hW => by
    have := refSame_any _ _ h.1.2.owner x.1.2.owner W' (HRO.out.below (below5 HW1.out (below5 HB.out hW))) (HXO.out.below (below5 HW1.out (below5 HB.out hW))) h.2.2.owner HXN.out
    rw [hz] at this; exact this
   clear hrow hel hcss hc4 hht hro hdat hg e1 e2 hlen hz hlast hm HI HR HCE HV
   gi_wp2_with fail
   refine drawnH (List.range 29) (Cs [(⟨g, m * 4, none⟩, Value.slice po no qo), (⟨g, m * 4 + 1, none⟩, .int .i64 h.1.2.type), (⟨g, m * 4 + 2, none⟩, .int .u32 (ht : Int)), (⟨g, m * 4 + 3, none⟩, .slice od (t.length + 1) cd), (e, .slice p0 n0 q0), (⟨e.block, e.off + 1, none⟩, .int .u32 (x.1.2.ttl : Int)), (⟨e.block, e.off + 2, none⟩, .int .i64 x.1.2.type), (⟨e.block, e.off + 3, none⟩, .slice p1 n1 q1), (⟨e.block, e.off + 4, none⟩, .slice p2 n2 q2), (⟨e.block, e.off + 5, none⟩, .slice p3 n3 q3), (⟨e.block, e.off + 6, none⟩, .slice p4 n4 q4), (⟨e.block, e.off + 2 + 1, none⟩, .slice p1 n1 q1), (⟨e.block, e.off + 2 + 2, none⟩, .slice p2 n2 q2), (⟨e.block, e.off + 2 + 3, none⟩, .slice p3 n3 q3), (⟨e.block, e.off + 2 + 4, none⟩, .slice p4 n4 q4)]) 29 rfl (by kernel_rfl) ?_
   intro wa hwa
   have HOA : Hid (Below wo.heap.size wo wa) := by subst hwa; exact (Below.refl wo.heap.size wo).drew
   have hS := HOS.out wa HOA.out
   clear hwa
   refine tH 0 ?sav0 hS (fun w1 ⟨o0, o1, o2, o3, x0, x1, x2, x3, x4, x5, x6, x7, x8, x9, x10, _⟩ => ?say0) ?_
   case say0 => go_simp; try rfl
   refine tH 1 ?sav1 hS (fun w1 ⟨o0, o1, o2, o3, x0, x1, x2, x3, x4, x5, x6, x7, x8, x9, x10, _⟩ => ?say1) ?_
   case say1 => go_simp; try rfl
   refine tH 2 ?sav2 hS (fun w1 ⟨o0, o1, o2, o3, x0, x1, x2, x3, x4, x5, x6, x7, x8, x9, x10, _⟩ => ?say2) ?_
   case say2 => go_simp; try rfl
   refine tH 3 ?sav3 hS (fun w1 ⟨o0, o1, o2, o3, x0, x1, x2, x3, x4, x5, x6, x7, x8, x9, x10, _⟩ => ?say3) ?_
   case say3 => go_simp; try rfl
   refine tH 4 ?sav4 hS (fun w1 ⟨o0, o1, o2, o3, x0, x1, x2, x3, x4, x5, x6, x7, x8, x9, x10, _⟩ => ?say4) ?_
   case say4 => go_simp; try rfl
   refine tH 5 ?sav5 hS (fun w1 ⟨o0, o1, o2, o3, x0, x1, x2, x3, x4, x5, x6, x7, x8, x9, x10, _⟩ => ?say5) ?_
   case say5 => (go_simp; try first | rfl | (rw [if_pos (by omega)]) | (rw [if_neg (by omega)]) | (rw [if_neg (by simp; omega)]) | (split <;> first | (exfalso; omega) | rfl))
   refine tH 6 ?sav6 hS (fun w1 ⟨o0, o1, o2, o3, x0, x1, x2, x3, x4, x5, x6, x7, x8, x9, x10, _⟩ => ?say6) ?_
   case say6 => go_simp; try rfl
   refine tH 7 ?sav7 hS (fun w1 ⟨o0, o1, o2, o3, x0, x1, x2, x3, x4, x5, x6, x7, x8, x9, x10, _⟩ => ?say7) ?_
   case say7 => go_simp; try rfl
   simp only [Act.put, List.setIfInBounds_toArray, List.set_cons_succ, List.set_cons_zero]
   refine tH 8 ?sav8 hS (fun w1 ⟨o0, o1, o2, o3, x0, x1, x2, x3, x4, x5, x6, x7, x8, x9, x10, _⟩ => ?say8) ?_
   case say8 => go_simp; try rfl
   refine tH 9 ?sav9 hS (fun w1 ⟨o0, o1, o2, o3, x0, x1, x2, x3, x4, x5, x6, x7, x8, x9, x10, _⟩ => ?say9) ?_
   case say9 => go_simp; try rfl
   refine tH 10 ?sav10 hS (fun w1 ⟨o0, o1, o2, o3, x0, x1, x2, x3, x4, x5, x6, x7, x8, x9, x10, _⟩ => ?say10) ?_
   case say10 => go_simp; try rfl
   refine tH 11 ?sav11 hS (fun w1 ⟨o0, o1, o2, o3, x0, x1, x2, x3, x4, x5, x6, x7, x8, x9, x10, _⟩ => ?say11) ?_
   case say11 => go_simp; try rfl
   refine tH 12 ?sav12 hS (fun w1 ⟨o0, o1, o2, o3, x0, x1, x2, x3, x4, x5, x6, x7, x8, x9, x10, _⟩ => ?say12) ?_
   case say12 => go_simp; try rfl
   simp only [Act.put, List.setIfInBounds_toArray, List.set_cons_succ, List.set_cons_zero]
   refine oneH 13 (by rfl) (by kernel_rfl) (fun K hK => ?_)
   gi_wp2_with (gi_at_call 63; refine (callsIn_wide.2 (HSM.out wa HOA.out)).mono ?_; rintro e9 wd ⟨rfl, b9⟩)
   have HOD := Lib.hid (below5 HOA.out b9)
   have HBD := Lib.hid (below5 HB.out HOD.out)
   have HRD := Lib.hid (HROW.out.below HOD.out)
   have HTD : Hid (TyKept 99 wo wd) := TyKept.below HOD.out
   have HEA := Lib.hid (fun j h1 h2 => (HEA0.out j h1 h2).keep HTD.out)
   replace hS := HOS.out wd HOD.out
   refine hK _ _ (fun _ => hS) ?_
   clear hK K b9
   cases z with
   | false =>
    have HNX : Hid (grp (c.take (i + 1)) = (gs' ++ [h :: t]) ++ [[x]]) := by
     show _ = _
     rw [HE2.out, if_neg]
     unfold Rs.P
     rw [HZ.out, Bool.and_false]; decide
    refine tH 14 ?sbv14 hS (fun w1 ⟨o0, o1, o2, o3, x0, x1, x2, x3, x4, x5, x6, x7, x8, x9, x10, _⟩ => ?sby14) ?_
    case sby14 => go_simp; try rfl
    refine tH 15 ?sbv15 hS (fun w1 ⟨o0, o1, o2, o3, x0, x1, x2, x3, x4, x5, x6, x7, x8, x9, x10, _⟩ => ?sby15) ?_
    case sby15 => go_simp; try rfl
    simp only [Act.put, List.setIfInBounds_toArray, List.set_cons_succ, List.set_cons_zero]
    refine tU 16 hS ?_
    refine tU 17 hS ?_
    refine tU 18 hS ?_
    refine tU 19 hS ?_
    refine tU 20 hS ?_
    refine tU 21 hS ?_
    refine tU 22 hS ?_
    refine tU 23 hS ?_
    simp only [Act.put, List.setIfInBounds_toArray, List.set_cons_succ, List.set_cons_zero]
    refine tU 24 hS ?_
    refine tU 25 hS ?_
    refine tU 26 hS ?_
    refine tU 27 hS ?_
    simp only [Act.put, List.setIfInBounds_toArray, List.set_cons_succ, List.set_cons_zero]
    refine tH 28 ?sbv28 hS (fun w1 ⟨o0, o1, o2, o3, x0, x1, x2, x3, x4, x5, x6, x7, x8, x9, x10, _⟩ => ?sby28) ?_
    case sby28 => go_simp; try rfl
    simp only [Act.put, List.setIfInBounds_toArray, List.set_cons_succ, List.set_cons_zero]
    refine doneH (by kernel_rfl) ?_
    clear hS
    gi_wp2_with fail
    refine drawnH (List.range 26) (Cs [(e, .slice p0 n0 q0), (⟨e.block, e.off + 1, none⟩, .int .u32 (x.1.2.ttl : Int)), (⟨e.block, e.off + 2, none⟩, .int .i64 x.1.2.type), (⟨e.block, e.off + 3, none⟩, .slice p1 n1 q1), (⟨e.block, e.off + 4, none⟩, .slice p2 n2 q2), (⟨e.block, e.off + 5, none⟩, .slice p3 n3 q3), (⟨e.block, e.off + 6, none⟩, .slice p4 n4 q4), (⟨e.block, e.off + 2 + 1, none⟩, .slice p1 n1 q1), (⟨e.block, e.off + 2 + 2, none⟩, .slice p2 n2 q2), (⟨e.block, e.off + 2 + 3, none⟩, .slice p3 n3 q3), (⟨e.block, e.off + 2 + 4, none⟩, .slice p4 n4 q4)]) 27 rfl (by kernel_rfl) ?_
    intro wj hwj
    have HBJ : Hid (Below w1.heap.size w1 wj) := by subst hwj; exact (HBD.out).drew
    have HBW : Hid (Below wd.heap.size wd wj) := by subst hwj; exact (Below.refl wd.heap.size wd).drew
    have hS : Cs [(e, .slice p0 n0 q0), (⟨e.block, e.off + 1, none⟩, .int .u32 (x.1.2.ttl : Int)), (⟨e.block, e.off + 2, none⟩, .int .i64 x.1.2.type), (⟨e.block, e.off + 3, none⟩, .slice p1 n1 q1), (⟨e.block, e.off + 4, none⟩, .slice p2 n2 q2), (⟨e.block, e.off + 5, none⟩, .slice p3 n3 q3), (⟨e.block, e.off + 6, none⟩, .slice p4 n4 q4), (⟨e.block, e.off + 2 + 1, none⟩, .slice p1 n1 q1), (⟨e.block, e.off + 2 + 2, none⟩, .slice p2 n2 q2), (⟨e.block, e.off + 2 + 3, none⟩, .slice p3 n3 q3), (⟨e.block, e.off + 2 + 4, none⟩, .slice p4 n4 q4)] wj := HXS.out wj HBJ.out
    clear hwj
    refine tH 0 ?sfv0 hS (fun w1 ⟨x0, x1, x2, x3, x4, x5, x6, x7, x8, x9, x10, _⟩ => ?sfy0) ?_
    case sfy0 => go_simp; try rfl
    refine tH 1 ?sfv1 hS (fun w1 ⟨x0, x1, x2, x3, x4, x5, x6, x7, x8, x9, x10, _⟩ => ?sfy1) ?_
    case sfy1 => go_simp; try rfl
    refine tH 2 ?sfv2 hS (fun w1 ⟨x0, x1, x2, x3, x4, x5, x6, x7, x8, x9, x10, _⟩ => ?sfy2) ?_
    case sfy2 => go_simp; try rfl
    refine tH 3 ?sfv3 hS (fun w1 ⟨x0, x1, x2, x3, x4, x5, x6, x7, x8, x9, x10, _⟩ => ?sfy3) ?_
    case sfy3 => go_simp; try rfl
    refine tH 4 ?sfv4 hS (fun w1 ⟨x0, x1, x2, x3, x4, x5, x6, x7, x8, x9, x10, _⟩ => ?sfy4) ?_
    case sfy4 => go_simp; try rfl
    refine tH 5 ?sfv5 hS (fun w1 ⟨x0, x1, x2, x3, x4, x5, x6, x7, x8, x9, x10, _⟩ => ?sfy5) ?_
    case sfy5 => go_simp; try rfl
    refine tH 6 ?sfv6 hS (fun w1 ⟨x0, x1, x2, x3, x4, x5, x6, x7, x8, x9, x10, _⟩ => ?sfy6) ?_
    case sfy6 => go_simp; try rfl
    refine tH 7 ?sfv7 hS (fun w1 ⟨x0, x1, x2, x3, x4, x5, x6, x7, x8, x9, x10, _⟩ => ?sfy7) ?_
    case sfy7 => go_simp; try rfl
    simp only [Act.put, List.setIfInBounds_toArray, List.set_cons_succ, List.set_cons_zero]
    refine tH 8 ?sfv8 hS (fun w1 ⟨x0, x1, x2, x3, x4, x5, x6, x7, x8, x9, x10, _⟩ => ?sfy8) ?_
    case sfy8 => go_simp; try rfl
    refine tH 9 ?sfv9 hS (fun w1 ⟨x0, x1, x2, x3, x4, x5, x6, x7, x8, x9, x10, _⟩ => ?sfy9) ?_
    case sfy9 => go_simp; try rfl
    refine tH 10 ?sfv10 hS (fun w1 ⟨x0, x1, x2, x3, x4, x5, x6, x7, x8, x9, x10, _⟩ => ?sfy10) ?_
    case sfy10 => go_simp; try rfl
    refine tH 11 ?sfv11 hS (fun w1 ⟨x0, x1, x2, x3, x4, x5, x6, x7, x8, x9, x10, _⟩ => ?sfy11) ?_
    case sfy11 => go_simp; try rfl
    refine tH 12 ?sfv12 hS (fun w1 ⟨x0, x1, x2, x3, x4, x5, x6, x7, x8, x9, x10, _⟩ => ?sfy12) ?_
    case sfy12 => go_simp; try rfl
    refine tH 13 ?sfv13 hS (fun w1 ⟨x0, x1, x2, x3, x4, x5, x6, x7, x8, x9, x10, _⟩ => ?sfy13) ?_
    case sfy13 => go_simp; try rfl
    refine tH 14 ?sfv14 hS (fun w1 ⟨x0, x1, x2, x3, x4, x5, x6, x7, x8, x9, x10, _⟩ => ?sfy14) ?_
    case sfy14 => go_simp; try rfl
    refine tH 15 ?sfv15 hS (fun w1 ⟨x0, x1, x2, x3, x4, x5, x6, x7, x8, x9, x10, _⟩ => ?sfy15) ?_
    case sfy15 => go_simp; try rfl
    simp only [Act.put, List.setIfInBounds_toArray, List.set_cons_succ, List.set_cons_zero]
    refine tH 16 ?sfv16 hS (fun w1 ⟨x0, x1, x2, x3, x4, x5, x6, x7, x8, x9, x10, _⟩ => ?sfy16) ?_
    case sfy16 => go_simp; try rfl
    refine tH 17 ?sfv17 hS (fun w1 ⟨x0, x1, x2, x3, x4, x5, x6, x7, x8, x9, x10, _⟩ => ?sfy17) ?_
    case sfy17 => go_simp; try rfl
    refine tH 18 ?sfv18 hS (fun w1 ⟨x0, x1, x2, x3, x4, x5, x6, x7, x8, x9, x10, _⟩ => ?sfy18) ?_
    case sfy18 => go_simp; try rfl
    refine tH 19 ?sfv19 hS (fun w1 ⟨x0, x1, x2, x3, x4, x5, x6, x7, x8, x9, x10, _⟩ => ?sfy19) ?_
    case sfy19 => go_simp; try rfl
    refine tH 20 ?sfv20 hS (fun w1 ⟨x0, x1, x2, x3, x4, x5, x6, x7, x8, x9, x10, _⟩ => ?sfy20) ?_
    case sfy20 => go_simp; try rfl
    refine tH 21 ?sfv21 hS (fun w1 ⟨x0, x1, x2, x3, x4, x5, x6, x7, x8, x9, x10, _⟩ => ?sfy21) ?_
    case sfy21 => go_simp; try rfl
    simp only [Act.put, List.setIfInBounds_toArray, List.set_cons_succ, List.set_cons_zero]
    refine oneH 22 (by rfl) (by kernel_rfl) (fun K hK => ?_)
    gi_wp2_with fail
    obtain ⟨wk, hwk⟩ : ∃ W, wj.alloc (.cells #[.int .i64 x.1.2.type, .slice p1 n1 q1, .slice p2 n2 q2, .slice p3 n3 q3, .slice p4 n4 q4] 99) = W := ⟨_, rfl⟩
    obtain ⟨b107, hb107⟩ : ∃ b, wj.heap.size = b := ⟨_, rfl⟩
    have hg107 : GRd 5 (.slice (some ⟨b107, 0, none⟩) 1 1) [encD x] wk := by
     rw [<- hwk, <- hb107, HED.out]
     exact GRd.new [.int .i64 x.1.2.type, .slice p1 n1 q1, .slice p2 n2 q2, .slice p3 n3 q3, .slice p4 n4 q4] rfl (by simp [Value.oneCell']) wj 99
    have ha107 : Below wj.heap.size wj wk := by rw [<- hwk]; exact (Below.refl _ _).alloc (Nat.le_refl _) _
    have hk107 : ∃ c f, wk.heap[b107]? = some (.cells c 99 f) := by
     rw [<- hwk, <- hb107]; exact ⟨_, _, World.alloc_heap_new wj _⟩
    rw [hwk, hb107]
    have HG107 := Lib.hid hg107
    have HA107 := Lib.hid ha107
    have HK107 := Lib.hid hk107
    have HBK := Lib.hid (below5 HBJ.out ha107)
    have HWK := Lib.hid (below5 HBW.out ha107)
    refine hK _ _ (fun _ => HXS.out _ HBK.out) ?_
    clear hK K hwk hb107 hg107 ha107 hk107
    refine oneH 23 (by rfl) (by kernel_rfl) (fun K hK => ?_)
    gi_wp2_with fail
    refine hK _ _ (fun _ => HXS.out _ HBK.out) ?_
    clear hK K
    refine oneH 24 (by rfl) (by kernel_rfl) (fun K hK => ?_)
    gi_wp2_with fail
    obtain ⟨wl, hwl⟩ : ∃ W, wk.alloc (.cells #[.slice p0 n0 q0, .int .i64 x.1.2.type, .int .u32 (x.1.2.ttl : Int), .slice (some ⟨b107, 0, none⟩) 1 1] 173) = W := ⟨_, rfl⟩
    obtain ⟨b109, hb109⟩ : ∃ b, wk.heap.size = b := ⟨_, rfl⟩
    have hg109 : GRd 4 (.slice (some ⟨b109, 0, none⟩) 1 1) [[.slice p0 n0 q0, .int .i64 x.1.2.type, .int .u32 (x.1.2.ttl : Int), .slice (some ⟨b107, 0, none⟩) 1 1]] wl := by
     rw [<- hwl, <- hb109]
     exact GRd.new [.slice p0 n0 q0, .int .i64 x.1.2.type, .int .u32 (x.1.2.ttl : Int), .slice (some ⟨b107, 0, none⟩) 1 1] rfl (by simp [Value.oneCell']) wk 173
    have ha109 : Below wk.heap.size wk wl := by rw [<- hwl]; exact (Below.refl _ _).alloc (Nat.le_refl _) _
    rw [hwl, hb109]
    have HG109 := Lib.hid hg109
    have HA109 := Lib.hid ha109
    have HBL := Lib.hid (below5 HBK.out ha109)
    have HWL := Lib.hid (below5 HWK.out ha109)
    refine hK _ _ (fun _ => HXS.out _ HBL.out) ?_
    clear hK K hwl hb109 hg109 ha109
    have HRL := Lib.hid ((HRD.out).below HWL.out)
    have HSZ : Hid (w1.heap.size <= wl.heap.size) := HBL.out.size
    refine oneH 25 (by rfl) (by kernel_rfl) (fun K hK => ?_)
    gi_wp2_with (gi_at_builtin; go_loud (refine append_g (fun g => w1.heap.size <= g) 173 _ 4 64 info_rset rfl (by decide) rfl _ _ _ Tryz.underlying170 rfl _ (m + 1) (css ++ [[.slice po no qo, .int .i64 h.1.2.type, .int .u32 (ht : Int), .slice od (t.length + 1) cd]]) (by rfl) HRL.out _ [[.slice p0 n0 q0, .int .i64 x.1.2.type, .int .u32 (x.1.2.ttl : Int), .slice (some ⟨b107, 0, none⟩) 1 1]] (by rfl) HG109.out (by simp <;> omega) (by omega) HSZ.out ?_); intro v110 wm hrow110 hgr110; have HR110 := Lib.hid hrow110; have HG110 := Lib.hid hgr110; clear hrow110 hgr110)
    refine hK _ _ (fun _ => HXS.out _ (HBL.out.grown HG110.out HBL.out.size (fun g hg => HRL.out.2 g hg))) ?_
    clear hK K
    refine oneH 26 (by rfl) (by kernel_rfl) (fun K hK => ?_)
    gi_wp2_with fail
    refine hK _ _ (fun h => absurd h (by decide)) ?_
    clear hK K
    refine doneH (by kernel_rfl) ?_
    clear hS
    gi_wp2_with fail
    refine ⟨⟨i + 1, (gs' ++ [h :: t]) ++ [[x]], hlt, by go_num, ?_, by first | (simp; done) | (have hm' : gs'.length = m := HGM.out; simp; omega), HBL.out.grown HG110.out HBL.out.size (fun g hg => HRL.out.2 g hg), ?_⟩, by simp [intOf] <;> omega⟩
    ·exact (HNX.out).symm
    ·have hty : TyKept 99 wl wm := TyKept.grown HG110.out (fun g hg => Row.typ HRL.out hg) (by decide)
     refine RSM.push (gs := (gs' ++ [h :: t])) HLA.out (by rw [HLN.out]; exact HR110.out) HEA.out ((TyKept.below HWL.out).trans hty) ⟨⟨x, [], _, _, _, _, _, rfl, by rw [show Rs.ttl x.1.2 (plE [x]) = x.1.2.ttl from Nat.min_self _]; rfl, HXO.out, ?_⟩, fun po t tt od n cd e a ha => ?_⟩
     ·have hd : GRd 5 (.slice (some ⟨b107, 0, none⟩) 1 1) [encD x] wm := GRd.grown75 (HG107.out.below HA109.out) HG110.out (fun g' hg' e' => by
       obtain ⟨c1, f1, h1⟩ := Row.typ HRL.out hg'
       obtain ⟨c2, f2, h2⟩ := HK107.out
       have h3 := (TyKept.below HA109.out) _ _ _ h2
       rw [e', h3] at h1
       have h4 := Option.some.inj h1
       injection h4 with _ h5 _
       exact absurd h5 (by decide))
      exact datsRd_of (l := [x]) hd
     ·cases e; cases ha
      obtain ⟨c, f, h⟩ := HK107.out
      exact ⟨_, _, hty _ _ _ ((TyKept.below HA109.out) _ _ _ h)⟩
   | true =>
    by_cases hty : h.1.2.type = x.1.2.type
    ·have hbq : (h.1.2.type == x.1.2.type) = true := by rw [hty]; exact beq_self_eq_true _
     have HNX : Hid (grp (c.take (i + 1)) = gs' ++ [(h :: t) ++ [x]]) := by
      show _ = _
      rw [HE2.out, if_pos]
      unfold Rs.P
      rw [HZ.out, hbq]; rfl
     refine tH 14 ?scv14 hS (fun w1 ⟨o0, o1, o2, o3, x0, x1, x2, x3, x4, x5, x6, x7, x8, x9, x10, _⟩ => ?scy14) ?_
     case scy14 => go_simp; try rfl
     refine tH 15 ?scv15 hS (fun w1 ⟨o0, o1, o2, o3, x0, x1, x2, x3, x4, x5, x6, x7, x8, x9, x10, _⟩ => ?scy15) ?_
     case scy15 => go_simp; try rfl
     refine tH 16 ?scv16 hS (fun w1 ⟨o0, o1, o2, o3, x0, x1, x2, x3, x4, x5, x6, x7, x8, x9, x10, _⟩ => ?scy16) ?_
     case scy16 => go_simp; try rfl
     refine tH 17 ?scv17 hS (fun w1 ⟨o0, o1, o2, o3, x0, x1, x2, x3, x4, x5, x6, x7, x8, x9, x10, _⟩ => ?scy17) ?_
     case scy17 => go_simp; try rfl
     refine tH 18 ?scv18 hS (fun w1 ⟨o0, o1, o2, o3, x0, x1, x2, x3, x4, x5, x6, x7, x8, x9, x10, _⟩ => ?scy18) ?_
     case scy18 => (go_simp; try first | rfl | (rw [if_pos (by omega)]) | (rw [if_neg (by omega)]) | (rw [if_neg (by simp; omega)]) | (split <;> first | (exfalso; omega) | rfl))
     refine tH 19 ?scv19 hS (fun w1 ⟨o0, o1, o2, o3, x0, x1, x2, x3, x4, x5, x6, x7, x8, x9, x10, _⟩ => ?scy19) ?_
     case scy19 => go_simp; try rfl
     refine tH 20 ?scv20 hS (fun w1 ⟨o0, o1, o2, o3, x0, x1, x2, x3, x4, x5, x6, x7, x8, x9, x10, _⟩ => ?scy20) ?_
     case scy20 => go_simp; try rfl
     refine tH 21 ?scv21 hS (fun w1 ⟨o0, o1, o2, o3, x0, x1, x2, x3, x4, x5, x6, x7, x8, x9, x10, _⟩ => ?scy21) ?_
     case scy21 => go_simp; try rfl
     simp only [Act.put, List.setIfInBounds_toArray, List.set_cons_succ, List.set_cons_zero]
     refine tH 22 ?scv22 hS (fun w1 ⟨o0, o1, o2, o3, x0, x1, x2, x3, x4, x5, x6, x7, x8, x9, x10, _⟩ => ?scy22) ?_
     case scy22 => go_simp; try rfl
     refine tH 23 ?scv23 hS (fun w1 ⟨o0, o1, o2, o3, x0, x1, x2, x3, x4, x5, x6, x7, x8, x9, x10, _⟩ => ?scy23) ?_
     case scy23 => go_simp; try rfl
     refine tH 24 ?scv24 hS (fun w1 ⟨o0, o1, o2, o3, x0, x1, x2, x3, x4, x5, x6, x7, x8, x9, x10, _⟩ => ?scy24) ?_
     case scy24 => go_simp; try rfl
     refine tH 25 ?scv25 hS (fun w1 ⟨o0, o1, o2, o3, x0, x1, x2, x3, x4, x5, x6, x7, x8, x9, x10, _⟩ => ?scy25) ?_
     case scy25 => go_simp; try rfl
     refine tH 26 ?scv26 hS (fun w1 ⟨o0, o1, o2, o3, x0, x1, x2, x3, x4, x5, x6, x7, x8, x9, x10, _⟩ => ?scy26) ?_
     case scy26 => go_simp; try rfl
     refine tH 27 ?scv27 hS (fun w1 ⟨o0, o1, o2, o3, x0, x1, x2, x3, x4, x5, x6, x7, x8, x9, x10, _⟩ => ?scy27) ?_
     case scy27 => go_simp; try rfl
     refine tH 28 ?scv28 hS (fun w1 ⟨o0, o1, o2, o3, x0, x1, x2, x3, x4, x5, x6, x7, x8, x9, x10, _⟩ => ?scy28) ?_
     case scy28 => go_simp; try rfl
     simp only [Act.put, List.setIfInBounds_toArray, List.set_cons_succ, List.set_cons_zero]
     refine doneH (by kernel_rfl) ?_
     clear hS
     gi_wp2_with fail
     refine drawnH (List.range 16) (Cs [(⟨g, m * 4, none⟩, Value.slice po no qo), (⟨g, m * 4 + 1, none⟩, .int .i64 h.1.2.type), (⟨g, m * 4 + 2, none⟩, .int .u32 (ht : Int)), (⟨g, m * 4 + 3, none⟩, .slice od (t.length + 1) cd), (e, .slice p0 n0 q0), (⟨e.block, e.off + 1, none⟩, .int .u32 (x.1.2.ttl : Int)), (⟨e.block, e.off + 2, none⟩, .int .i64 x.1.2.type), (⟨e.block, e.off + 3, none⟩, .slice p1 n1 q1), (⟨e.block, e.off + 4, none⟩, .slice p2 n2 q2), (⟨e.block, e.off + 5, none⟩, .slice p3 n3 q3), (⟨e.block, e.off + 6, none⟩, .slice p4 n4 q4), (⟨e.block, e.off + 2 + 1, none⟩, .slice p1 n1 q1), (⟨e.block, e.off + 2 + 2, none⟩, .slice p2 n2 q2), (⟨e.block, e.off + 2 + 3, none⟩, .slice p3 n3 q3), (⟨e.block, e.off + 2 + 4, none⟩, .slice p4 n4 q4)]) 19 rfl (by kernel_rfl) ?_
     intro wj hwj
     have HDJ : Hid (Below wd.heap.size wd wj) := by subst hwj; exact (Below.refl wd.heap.size wd).drew
     have HOJ : Hid (Below wo.heap.size wo wj) := below5 HOD.out HDJ.out
     have HBJ := Lib.hid (below5 HB.out HOJ.out)
     have hS := HOS.out wj HOJ.out
     clear hwj
     refine tH 0 ?shyv0 hS (fun w1 ⟨o0, o1, o2, o3, x0, x1, x2, x3, x4, x5, x6, x7, x8, x9, x10, _⟩ => ?shyy0) ?_
     case shyy0 => go_simp; try rfl
     refine tH 1 ?shyv1 hS (fun w1 ⟨o0, o1, o2, o3, x0, x1, x2, x3, x4, x5, x6, x7, x8, x9, x10, _⟩ => ?shyy1) ?_
     case shyy1 => go_simp; try rfl
     refine tH 3 ?shyv3 hS (fun w1 ⟨o0, o1, o2, o3, x0, x1, x2, x3, x4, x5, x6, x7, x8, x9, x10, _⟩ => ?shyy3) ?_
     case shyy3 => go_simp; try rfl
     refine tH 4 ?shyv4 hS (fun w1 ⟨o0, o1, o2, o3, x0, x1, x2, x3, x4, x5, x6, x7, x8, x9, x10, _⟩ => ?shyy4) ?_
     case shyy4 => go_simp; try rfl
     refine tH 5 ?shyv5 hS (fun w1 ⟨o0, o1, o2, o3, x0, x1, x2, x3, x4, x5, x6, x7, x8, x9, x10, _⟩ => ?shyy5) ?_
     case shyy5 => (go_simp; try first | rfl | (rw [if_pos (by omega)]) | (rw [if_neg (by omega)]) | (rw [if_neg (by simp; omega)]) | (split <;> first | (exfalso; omega) | rfl))
     refine tH 6 ?shyv6 hS (fun w1 ⟨o0, o1, o2, o3, x0, x1, x2, x3, x4, x5, x6, x7, x8, x9, x10, _⟩ => ?shyy6) ?_
     case shyy6 => go_simp; try rfl
     refine tH 7 ?shyv7 hS (fun w1 ⟨o0, o1, o2, o3, x0, x1, x2, x3, x4, x5, x6, x7, x8, x9, x10, _⟩ => ?shyy7) ?_
     case shyy7 => go_simp; try rfl
     refine tH 9 ?shyv9 hS (fun w1 ⟨o0, o1, o2, o3, x0, x1, x2, x3, x4, x5, x6, x7, x8, x9, x10, _⟩ => ?shyy9) ?_
     case shyy9 => go_simp; try rfl
     simp only [Act.put, List.setIfInBounds_toArray, List.set_cons_succ, List.set_cons_zero]
     refine tH 10 ?shyv10 hS (fun w1 ⟨o0, o1, o2, o3, x0, x1, x2, x3, x4, x5, x6, x7, x8, x9, x10, _⟩ => ?shyy10) ?_
     case shyy10 => go_simp; try rfl
     refine tH 11 ?shyv11 hS (fun w1 ⟨o0, o1, o2, o3, x0, x1, x2, x3, x4, x5, x6, x7, x8, x9, x10, _⟩ => ?shyy11) ?_
     case shyy11 => go_simp; try rfl
     refine tH 12 ?shyv12 hS (fun w1 ⟨o0, o1, o2, o3, x0, x1, x2, x3, x4, x5, x6, x7, x8, x9, x10, _⟩ => ?shyy12) ?_
     case shyy12 => go_simp; try rfl
     refine tH 13 ?shyv13 hS (fun w1 ⟨o0, o1, o2, o3, x0, x1, x2, x3, x4, x5, x6, x7, x8, x9, x10, _⟩ => ?shyy13) ?_
     case shyy13 => go_simp; try rfl
     simp only [Act.put, List.setIfInBounds_toArray, List.set_cons_succ, List.set_cons_zero]
     have HTK : Hid (∀ W', Below wj.heap.size wj W' -> GRd 5 (.slice od (t.length + 1) cd) ((h :: t).map encD) W') := fun W' hW => HDAT.out.grd.below (below5 HOJ.out hW)
     have htl : t.length < 1000 := by have := HTL.out; omega
     apply finQ6 (fun (_ _ : Nat) (_ : Value) (av : Option Addr) (cw : Nat) (W4 : World) => Row (fun g => wj.heap.size <= g) 99 5 (.slice av (t.length + 1 + 1) cw) (t.length + 1 + 1) (((h :: t) ++ [x]).map encD).flatten W4 /\ Below wj.heap.size wj W4)
     case h1 =>
      intro FIN
      refine twoH2 2 14 (by rfl) (by rfl) (by kernel_rfl) (fun K hK => ?_) (fun K hK => ?_)
      ·gi_wp2_with fail
       obtain ⟨wa, hwn0⟩ : ∃ W, wj.alloc (.cells #[] 99) = W := ⟨_, rfl⟩
       have ha : Below wj.heap.size wj wa := by rw [<- hwn0]; exact ((Below.refl wj.heap.size wj)).alloc ((Below.refl wj.heap.size wj)).size _
       obtain ⟨b66, hb66⟩ : ∃ b, wj.heap.size = b := ⟨_, rfl⟩
       have he66 : Row (fun g => wj.heap.size <= g) 99 5 (.slice (some ⟨b66, 0, none⟩) 0 0) 0 ([] : List (List Value)).flatten wa := by
        rw [<- hwn0, <- hb66]
        exact ⟨World.ownsRow_lit wj #[] 0 (Nat.zero_le _) (by unfold maxLen; omega) rfl, fun g hg => by cases hg; exact ((Below.refl wj.heap.size wj)).size⟩
       have hn66 : wj.heap.size = b66 := hb66
       have HA66 : Hid (Below wj.heap.size wj wa) := by show Below _ _ _; rw [<- hwn0]; exact (Below.refl _ _).alloc (Nat.le_refl _) _
       rw [hwn0, hb66]
       have HE66 := Lib.hid he66
       have HN66 := Lib.hid hn66
       refine hK _ _ (fun _ => HOS.out _ (below5 HOJ.out ha)) ?_
       clear hK K hwn0 hb66 he66 hn66
       refine twoH2 8 14 (by rfl) (by rfl) (by kernel_rfl) (fun K hK => ?_) (fun K hK => ?_)
       ·have HSZ4 : Hid (wj.heap.size <= wa.heap.size) := (ha).size
        have HRW4 := Lib.hid (HE66.out)
        gi_wp2_with (gi_at_builtin; refine append_g (fun g => wj.heap.size <= g) 99 _ 5 104 info_rdat rfl (by decide) rfl _ _ _ Tryz.underlying51 rfl _ 0 [] (by rfl) HRW4.out _ ((h :: t).map encD) (by rfl) (HTK.out _ (ha)) (by simp; omega) (by omega) HSZ4.out ?_; intro v70 wb hrow70 hgr70)
        have hb2 : Below wj.heap.size wj wb := (ha).grown hgr70 (ha).size (fun g hg => HRW4.out.2 g hg)
        rw [List.nil_append, List.length_map, List.length_cons, Nat.zero_add] at hrow70
        have HR70 := Lib.hid hrow70
        have HGR70 := Lib.hid hgr70
        refine hK _ _ (fun _ => HOS.out _ (below5 HOJ.out hb2)) ?_
        clear hK K hrow70 hgr70 HSZ4
        refine oneH 14 (by rfl) (by kernel_rfl) (fun K hK => ?_)
        gi_wp2_with fail
        obtain ⟨wc, hwn9⟩ : ∃ W, wb.alloc (.cells #[.int .i64 x.1.2.type, .slice p1 n1 q1, .slice p2 n2 q2, .slice p3 n3 q3, .slice p4 n4 q4] 99) = W := ⟨_, rfl⟩
        have hc : Below wj.heap.size wj wc := by rw [<- hwn9]; exact (hb2).alloc (hb2).size _
        obtain ⟨b75, hb75⟩ : ∃ b, wb.heap.size = b := ⟨_, rfl⟩
        have hg75 : GRd 5 (.slice (some ⟨b75, 0, none⟩) 1 1) [encD x] wc := by
         rw [<- hwn9, <- hb75, HED.out]
         exact GRd.new [.int .i64 x.1.2.type, .slice p1 n1 q1, .slice p2 n2 q2, .slice p3 n3 q3, .slice p4 n4 q4] rfl (by simp [Value.oneCell']) wb 99
        have ha75 : Below wb.heap.size wb wc := by rw [<- hwn9]; exact (Below.refl _ _).alloc (Nat.le_refl _) _
        have hk75 : b75 + 1 = wc.heap.size := by rw [<- hwn9, <- hb75]; simp
        rw [hwn9, hb75]
        have HG75 := Lib.hid hg75
        have HA75 := Lib.hid ha75
        have HK75 := Lib.hid hk75
        refine hK _ _ (fun _ => HOS.out _ (below5 HOJ.out hc)) ?_
        clear hK K hwn9 hg75 ha75 hk75 hb75
        have HSZ9 : Hid (wj.heap.size <= wc.heap.size) := (hc).size
        have HRW9 := Lib.hid (HR70.out.below HA75.out)
        have HGW9 := Lib.hid (HG75.out)
        try clear hne75
        try clear hb75'
        refine oneH 15 (by rfl) (by kernel_rfl) (fun K hK => ?_)
        gi_wp2_with (gi_at_builtin; refine append_g (fun g => wj.heap.size <= g) 99 _ 5 104 info_rdat rfl (by decide) rfl _ _ _ Tryz.underlying51 rfl _ (t.length + 1) ((h :: t).map encD) (by rfl) HRW9.out _ [encD x] (by rfl) HGW9.out (by simp; omega) (by omega) HSZ9.out ?_; intro v76 wd2 hrow76 hgr76)
        obtain ⟨av, cw, rfl⟩ := hrow76.form
        have hd2 : Below wj.heap.size wj wd2 := (hc).grown hgr76 (hc).size (fun g hg => HRW9.out.2 g hg)
        have HR76 := Lib.hid hrow76
        replace hS := HOS.out _ (below5 HOJ.out hd2)
        have hof := (Row.cellAt (HROW.out.below (below5 HOJ.out hd2)) (m * 4 + 3) (by omega)).2
        have ho3 : wd2.cell? ⟨g, m * 4 + 3, none⟩ = some (.slice od (t.length + 1) cd) := hS.2.2.2.1
        refine hK _ _ (fun _ => hS) ?_
        clear hK K hrow76 hgr76 HSZ9
        refine tP 16 ?shzav16 (fun w1 _ => ?shzay16) ?_
        case shzay16 => (go_simp; try first | rfl | (rw [if_pos (by omega)]) | (rw [if_neg (by omega)]) | (rw [if_neg (by simp; omega)]) | (split <;> first | (exfalso; omega) | rfl))
        refine tP 17 ?shzav17 (fun w1 _ => ?shzay17) ?_
        case shzay17 => go_simp; try rfl
        simp only [Act.put, List.setIfInBounds_toArray, List.set_cons_succ, List.set_cons_zero]
        refine oneH 18 (by rfl) (by kernel_rfl) (fun K hK => ?_)
        gi_wp2_with fail
        refine hK _ _ (fun h => absurd h (by decide)) ?_
        clear hK K
        refine doneH (by kernel_rfl) ?_
        have hfr := HR76.out
        rw [<- List.map_singleton (f := encD), <- List.map_append] at hfr
        apply FIN b66 b75 v70 av cw wd2
        exact ⟨hfr, hd2⟩
       ·gi_wp2_with fail
        obtain ⟨wb, hwn9⟩ : ∃ W, wa.alloc (.cells #[.int .i64 x.1.2.type, .slice p1 n1 q1, .slice p2 n2 q2, .slice p3 n3 q3, .slice p4 n4 q4] 99) = W := ⟨_, rfl⟩
        have hb2 : Below wj.heap.size wj wb := by rw [<- hwn9]; exact (ha).alloc (ha).size _
        obtain ⟨b75, hb75⟩ : ∃ b, wa.heap.size = b := ⟨_, rfl⟩
        have hg75 : GRd 5 (.slice (some ⟨b75, 0, none⟩) 1 1) [encD x] wb := by
         rw [<- hwn9, <- hb75, HED.out]
         exact GRd.new [.int .i64 x.1.2.type, .slice p1 n1 q1, .slice p2 n2 q2, .slice p3 n3 q3, .slice p4 n4 q4] rfl (by simp [Value.oneCell']) wa 99
        have ha75 : Below wa.heap.size wa wb := by rw [<- hwn9]; exact (Below.refl _ _).alloc (Nat.le_refl _) _
        have hk75 : b75 + 1 = wb.heap.size := by rw [<- hwn9, <- hb75]; simp
        rw [hwn9, hb75]
        have HG75 := Lib.hid hg75
        have HA75 := Lib.hid ha75
        have HK75 := Lib.hid hk75
        refine hK _ _ (fun _ => HOS.out _ (below5 HOJ.out hb2)) ?_
        have hb75' : wa.heap.size = b75 := hb75
        clear hK K hwn9 hg75 ha75 hk75 hb75
        have HE67 := Lib.hid (HE66.out.below HA75.out)
        have hne75 : b66 ≠ b75 := by
         have h1 := HK75.out
         have h3 := (HE66.out.1.lt b66 rfl).2
         have h4 := HA75.out.size
         omega
        refine oneH 8 (by rfl) (by kernel_rfl) (fun K hK => ?_)
        have HSZ4 : Hid (wj.heap.size <= wb.heap.size) := (hb2).size
        have HRW4 := Lib.hid (HE67.out)
        gi_wp2_with (gi_at_builtin; refine append_g (fun g => wj.heap.size <= g) 99 _ 5 104 info_rdat rfl (by decide) rfl _ _ _ Tryz.underlying51 rfl _ 0 [] (by rfl) HRW4.out _ ((h :: t).map encD) (by rfl) (HTK.out _ (hb2)) (by simp; omega) (by omega) HSZ4.out ?_; intro v70 wc hrow70 hgr70)
        have hc : Below wj.heap.size wj wc := (hb2).grown hgr70 (hb2).size (fun g hg => HRW4.out.2 g hg)
        rw [List.nil_append, List.length_map, List.length_cons, Nat.zero_add] at hrow70
        have HR70 := Lib.hid hrow70
        have HGR70 := Lib.hid hgr70
        refine hK _ _ (fun _ => HOS.out _ (below5 HOJ.out hc)) ?_
        clear hK K hrow70 hgr70 HSZ4
        have HSZ9 : Hid (wj.heap.size <= wc.heap.size) := (hc).size
        have HRW9 := Lib.hid (HR70.out)
        have HGW9 := Lib.hid (GRd.grown75 HG75.out HGR70.out (by rintro g hg; simp only [Value.ownBlock, Option.some.injEq] at hg; omega))
        try clear hne75
        try clear hb75'
        refine oneH 15 (by rfl) (by kernel_rfl) (fun K hK => ?_)
        gi_wp2_with (gi_at_builtin; refine append_g (fun g => wj.heap.size <= g) 99 _ 5 104 info_rdat rfl (by decide) rfl _ _ _ Tryz.underlying51 rfl _ (t.length + 1) ((h :: t).map encD) (by rfl) HRW9.out _ [encD x] (by rfl) HGW9.out (by simp; omega) (by omega) HSZ9.out ?_; intro v76 wd2 hrow76 hgr76)
        obtain ⟨av, cw, rfl⟩ := hrow76.form
        have hd2 : Below wj.heap.size wj wd2 := (hc).grown hgr76 (hc).size (fun g hg => HRW9.out.2 g hg)
        have HR76 := Lib.hid hrow76
        replace hS := HOS.out _ (below5 HOJ.out hd2)
        have hof := (Row.cellAt (HROW.out.below (below5 HOJ.out hd2)) (m * 4 + 3) (by omega)).2
        have ho3 : wd2.cell? ⟨g, m * 4 + 3, none⟩ = some (.slice od (t.length + 1) cd) := hS.2.2.2.1
        refine hK _ _ (fun _ => hS) ?_
        clear hK K hrow76 hgr76 HSZ9
        refine tP 16 ?shzbv16 (fun w1 _ => ?shzby16) ?_
        case shzby16 => (go_simp; try first | rfl | (rw [if_pos (by omega)]) | (rw [if_neg (by omega)]) | (rw [if_neg (by simp; omega)]) | (split <;> first | (exfalso; omega) | rfl))
        refine tP 17 ?shzbv17 (fun w1 _ => ?shzby17) ?_
        case shzby17 => go_simp; try rfl
        simp only [Act.put, List.setIfInBounds_toArray, List.set_cons_succ, List.set_cons_zero]
        refine oneH 18 (by rfl) (by kernel_rfl) (fun K hK => ?_)
        gi_wp2_with fail
        refine hK _ _ (fun h => absurd h (by decide)) ?_
        clear hK K
        refine doneH (by kernel_rfl) ?_
        have hfr := HR76.out
        rw [<- List.map_singleton (f := encD), <- List.map_append] at hfr
        apply FIN b66 b75 v70 av cw wd2
        exact ⟨hfr, hd2⟩
      ·gi_wp2_with fail
       obtain ⟨wa, hwn9⟩ : ∃ W, wj.alloc (.cells #[.int .i64 x.1.2.type, .slice p1 n1 q1, .slice p2 n2 q2, .slice p3 n3 q3, .slice p4 n4 q4] 99) = W := ⟨_, rfl⟩
       have ha : Below wj.heap.size wj wa := by rw [<- hwn9]; exact ((Below.refl wj.heap.size wj)).alloc ((Below.refl wj.heap.size wj)).size _
       obtain ⟨b75, hb75⟩ : ∃ b, wj.heap.size = b := ⟨_, rfl⟩
       have hg75 : GRd 5 (.slice (some ⟨b75, 0, none⟩) 1 1) [encD x] wa := by
        rw [<- hwn9, <- hb75, HED.out]
        exact GRd.new [.int .i64 x.1.2.type, .slice p1 n1 q1, .slice p2 n2 q2, .slice p3 n3 q3, .slice p4 n4 q4] rfl (by simp [Value.oneCell']) wj 99
       have ha75 : Below wj.heap.size wj wa := by rw [<- hwn9]; exact (Below.refl _ _).alloc (Nat.le_refl _) _
       have hk75 : b75 + 1 = wa.heap.size := by rw [<- hwn9, <- hb75]; simp
       rw [hwn9, hb75]
       have HG75 := Lib.hid hg75
       have HA75 := Lib.hid ha75
       have HK75 := Lib.hid hk75
       refine hK _ _ (fun _ => HOS.out _ (below5 HOJ.out ha)) ?_
       clear hK K hwn9 hg75 ha75 hk75 hb75
       refine oneH 2 (by rfl) (by kernel_rfl) (fun K hK => ?_)
       gi_wp2_with fail
       obtain ⟨wb, hwn0⟩ : ∃ W, wa.alloc (.cells #[] 99) = W := ⟨_, rfl⟩
       have hb2 : Below wj.heap.size wj wb := by rw [<- hwn0]; exact (ha).alloc (ha).size _
       obtain ⟨b66, hb66⟩ : ∃ b, wa.heap.size = b := ⟨_, rfl⟩
       have he66 : Row (fun g => wj.heap.size <= g) 99 5 (.slice (some ⟨b66, 0, none⟩) 0 0) 0 ([] : List (List Value)).flatten wb := by
        rw [<- hwn0, <- hb66]
        exact ⟨World.ownsRow_lit wa #[] 0 (Nat.zero_le _) (by unfold maxLen; omega) rfl, fun g hg => by cases hg; exact (ha).size⟩
       have hn66 : wa.heap.size = b66 := hb66
       have HA66 : Hid (Below wa.heap.size wa wb) := by show Below _ _ _; rw [<- hwn0]; exact (Below.refl _ _).alloc (Nat.le_refl _) _
       rw [hwn0, hb66]
       have HE66 := Lib.hid he66
       have HN66 := Lib.hid hn66
       refine hK _ _ (fun _ => HOS.out _ (below5 HOJ.out hb2)) ?_
       clear hK K hwn0 hb66 he66 hn66
       have hne75 : b66 ≠ b75 := by
        have h1 := HK75.out
        have h3 := HN66.out
        omega
       refine oneH 8 (by rfl) (by kernel_rfl) (fun K hK => ?_)
       have HSZ4 : Hid (wj.heap.size <= wb.heap.size) := (hb2).size
       have HRW4 := Lib.hid (HE66.out)
       gi_wp2_with (gi_at_builtin; refine append_g (fun g => wj.heap.size <= g) 99 _ 5 104 info_rdat rfl (by decide) rfl _ _ _ Tryz.underlying51 rfl _ 0 [] (by rfl) HRW4.out _ ((h :: t).map encD) (by rfl) (HTK.out _ (hb2)) (by simp; omega) (by omega) HSZ4.out ?_; intro v70 wc hrow70 hgr70)
       have hc : Below wj.heap.size wj wc := (hb2).grown hgr70 (hb2).size (fun g hg => HRW4.out.2 g hg)
       rw [List.nil_append, List.length_map, List.length_cons, Nat.zero_add] at hrow70
       have HR70 := Lib.hid hrow70
       have HGR70 := Lib.hid hgr70
       refine hK _ _ (fun _ => HOS.out _ (below5 HOJ.out hc)) ?_
       clear hK K hrow70 hgr70 HSZ4
       have HSZ9 : Hid (wj.heap.size <= wc.heap.size) := (hc).size
       have HRW9 := Lib.hid (HR70.out)
       have HGW9 := Lib.hid (GRd.grown75 (HG75.out.below HA66.out) HGR70.out (by rintro g hg; simp only [Value.ownBlock, Option.some.injEq] at hg; omega))
       try clear hne75
       try clear hb75'
       refine oneH 15 (by rfl) (by kernel_rfl) (fun K hK => ?_)
       gi_wp2_with (gi_at_builtin; refine append_g (fun g => wj.heap.size <= g) 99 _ 5 104 info_rdat rfl (by decide) rfl _ _ _ Tryz.underlying51 rfl _ (t.length + 1) ((h :: t).map encD) (by rfl) HRW9.out _ [encD x] (by rfl) HGW9.out (by simp; omega) (by omega) HSZ9.out ?_; intro v76 wd2 hrow76 hgr76)
       obtain ⟨av, cw, rfl⟩ := hrow76.form
       have hd2 : Below wj.heap.size wj wd2 := (hc).grown hgr76 (hc).size (fun g hg => HRW9.out.2 g hg)
       have HR76 := Lib.hid hrow76
       replace hS := HOS.out _ (below5 HOJ.out hd2)
       have hof := (Row.cellAt (HROW.out.below (below5 HOJ.out hd2)) (m * 4 + 3) (by omega)).2
       have ho3 : wd2.cell? ⟨g, m * 4 + 3, none⟩ = some (.slice od (t.length + 1) cd) := hS.2.2.2.1
       refine hK _ _ (fun _ => hS) ?_
       clear hK K hrow76 hgr76 HSZ9
       refine tP 16 ?shzcv16 (fun w1 _ => ?shzcy16) ?_
       case shzcy16 => (go_simp; try first | rfl | (rw [if_pos (by omega)]) | (rw [if_neg (by omega)]) | (rw [if_neg (by simp; omega)]) | (split <;> first | (exfalso; omega) | rfl))
       refine tP 17 ?shzcv17 (fun w1 _ => ?shzcy17) ?_
       case shzcy17 => go_simp; try rfl
       simp only [Act.put, List.setIfInBounds_toArray, List.set_cons_succ, List.set_cons_zero]
       refine oneH 18 (by rfl) (by kernel_rfl) (fun K hK => ?_)
       gi_wp2_with fail
       refine hK _ _ (fun h => absurd h (by decide)) ?_
       clear hK K
       refine doneH (by kernel_rfl) ?_
       have hfr := HR76.out
       rw [<- List.map_singleton (f := encD), <- List.map_append] at hfr
       apply FIN b66 b75 v70 av cw wd2
       exact ⟨hfr, hd2⟩
     case h2 =>
      rintro b66 b75 v70 av cw W4 ⟨hr76, hb4⟩
      have HB4 := Lib.hid (below5 HBJ.out hb4)
      have HO4 := Lib.hid (below5 HOJ.out hb4)
      have HT4 : Hid (TyKept 99 wo W4) := TyKept.below HO4.out
      have hgrd : GRd 5 (.slice av (t.length + 1 + 1) cw) (((h :: t) ++ [x]).map encD) W4 := Row.grd (by simpa using hr76) (fun c hc => by
       obtain ⟨y, _, rfl⟩ := List.mem_map.1 hc
       exact ⟨encD_len y, encD_one' y⟩)
      have HRT : Hid (RSetT [Value.slice po no qo, .int .i64 h.1.2.type, .int .u32 ((min ht x.1.2.ttl : Nat) : Int), .slice av (t.length + 1 + 1) cw] ((h :: t) ++ [x]) W4) := by
       refine ⟨⟨h, t ++ [x], po, no, qo, av, cw, rfl, ?_, HRO.out, ?_⟩, fun p0 t0 t1 od n cd e a ha => ?_⟩
       ·rw [show plE ((h :: t) ++ [x]) = plE (h :: t) ++ [x.1.2] from plE_snoc _ _, ttl_snoc, HHT.out]
        simp
       ·have := datsRd_of (l := (h :: t) ++ [x]) hgrd
        simpa using this
       ·cases e
        obtain ⟨cc, ff, hh⟩ := Row.typ hr76 (g := a.block) (by rw [ha]; rfl)
        exact ⟨_, _, hh⟩
      have hr4 := HROW.out.below HO4.out
      have HT5 : Hid (TyKept 99 W4 (W4.setCell ⟨g, m * 4 + 3, none⟩ (.slice av (t.length + 1 + 1) cw))) := TyKept.set _ (Row.typ hr4 rfl) (by decide)
      have hr5 := Row.set1 hr4 (m * 4 + 3) (.slice av (t.length + 1 + 1) cw)
      rw [flat4_set css _ m 3 _ HCS.out HC4.out] at hr5
      have HB5 : Hid (Below w1.heap.size w1 (W4.setCell ⟨g, m * 4 + 3, none⟩ (.slice av (t.length + 1 + 1) cw))) := HB4.out.setCell (p := ⟨g, m * 4 + 3, none⟩) HG.out _
      obtain ⟨W5, hW5⟩ : ∃ W, W4.setCell ⟨g, m * 4 + 3, none⟩ (.slice av (t.length + 1 + 1) cw) = W := ⟨_, rfl⟩
      rw [hW5] at HT5 hr5 HB5
      rw [hW5]
      have HR5 : Hid (Row (fun g => w1.heap.size <= g) 173 4 (.slice (some ⟨g, 0, none⟩) (m + 1) cx) (m + 1) (css ++ [[Value.slice po no qo, .int .i64 h.1.2.type, .int .u32 (ht : Int), .slice av (t.length + 1 + 1) cw]]).flatten W5) := hr5
      have HOS5 : Hid (∀ W', Below W5.heap.size W5 W' -> Cs [(⟨g, m * 4, none⟩, Value.slice po no qo), (⟨g, m * 4 + 1, none⟩, .int .i64 h.1.2.type), (⟨g, m * 4 + 2, none⟩, .int .u32 (ht : Int)), (⟨g, m * 4 + 3, none⟩, .slice av (t.length + 1 + 1) cw), (e, .slice p0 n0 q0), (⟨e.block, e.off + 1, none⟩, .int .u32 (x.1.2.ttl : Int)), (⟨e.block, e.off + 2, none⟩, .int .i64 x.1.2.type), (⟨e.block, e.off + 3, none⟩, .slice p1 n1 q1), (⟨e.block, e.off + 4, none⟩, .slice p2 n2 q2), (⟨e.block, e.off + 5, none⟩, .slice p3 n3 q3), (⟨e.block, e.off + 6, none⟩, .slice p4 n4 q4), (⟨e.block, e.off + 2 + 1, none⟩, .slice p1 n1 q1), (⟨e.block, e.off + 2 + 2, none⟩, .slice p2 n2 q2), (⟨e.block, e.off + 2 + 3, none⟩, .slice p3 n3 q3), (⟨e.block, e.off + 2 + 4, none⟩, .slice p4 n4 q4)] W') := fun W' hW => by
       have hr := HR5.out.below hW
       have hb : ∀ j, j < 4 -> W'.cell? ⟨g, m * 4 + j, none⟩ = _ := fun j hj => ((Row.cellAt hr (m * 4 + j) (by omega)).1).trans (flat4_get css _ m j HCS.out HC4.out)
       exact ⟨hb 0 (by omega), hb 1 (by omega), hb 2 (by omega), hb 3 (by omega), HXS.out W' (below5 HB5.out hW)⟩
      have HEL5 := Lib.hid (fun j h1 h2 => (HEL.out j h1 h2).keep (HT4.out.trans HT5.out))
      have HRT5 := Lib.hid (HRT.out.keep HT5.out)
      clear hr76 hb4 hgrd hr4 hr5 hW5
      gi_wp2_with fail
      refine drawnH (List.range 11) (Cs [(⟨g, m * 4, none⟩, Value.slice po no qo), (⟨g, m * 4 + 1, none⟩, .int .i64 h.1.2.type), (⟨g, m * 4 + 2, none⟩, .int .u32 (ht : Int)), (⟨g, m * 4 + 3, none⟩, .slice av (t.length + 1 + 1) cw), (e, .slice p0 n0 q0), (⟨e.block, e.off + 1, none⟩, .int .u32 (x.1.2.ttl : Int)), (⟨e.block, e.off + 2, none⟩, .int .i64 x.1.2.type), (⟨e.block, e.off + 3, none⟩, .slice p1 n1 q1), (⟨e.block, e.off + 4, none⟩, .slice p2 n2 q2), (⟨e.block, e.off + 5, none⟩, .slice p3 n3 q3), (⟨e.block, e.off + 6, none⟩, .slice p4 n4 q4), (⟨e.block, e.off + 2 + 1, none⟩, .slice p1 n1 q1), (⟨e.block, e.off + 2 + 2, none⟩, .slice p2 n2 q2), (⟨e.block, e.off + 2 + 3, none⟩, .slice p3 n3 q3), (⟨e.block, e.off + 2 + 4, none⟩, .slice p4 n4 q4)]) 11 rfl (by kernel_rfl) ?_
      intro we hwe
      have HWE : Hid (Below W5.heap.size W5 we) := by subst hwe; exact (Below.refl W5.heap.size W5).drew
      have hS := HOS5.out we HWE.out
      have HRE := Lib.hid (HR5.out.below HWE.out)
      have HBE := Lib.hid (below5 HB5.out HWE.out)
      have HTE : Hid (TyKept 99 W5 we) := TyKept.below HWE.out
      have HHL : Hid ((gs' ++ [(h :: t) ++ [x]]).length = m + 1) := by show _ = _; simp [HGM.out]
      clear hwe
      by_cases htt : x.1.2.ttl < ht
      ·have htz : (x.1.2.ttl : Int) < (ht : Int) := by omega
       have htd : decide (x.1.2.ttl < ht) = true := decide_eq_true htt
       refine tH 0 ?shwv0 hS (fun w1 ⟨o0, o1, o2, o3, x0, x1, x2, x3, x4, x5, x6, x7, x8, x9, x10, _⟩ => ?shwy0) ?_
       case shwy0 => go_simp; try rfl
       refine tH 1 ?shwv1 hS (fun w1 ⟨o0, o1, o2, o3, x0, x1, x2, x3, x4, x5, x6, x7, x8, x9, x10, _⟩ => ?shwy1) ?_
       case shwy1 => go_simp; try rfl
       refine tH 2 ?shwv2 hS (fun w1 ⟨o0, o1, o2, o3, x0, x1, x2, x3, x4, x5, x6, x7, x8, x9, x10, _⟩ => ?shwy2) ?_
       case shwy2 => go_simp; try rfl
       refine tH 3 ?shwv3 hS (fun w1 ⟨o0, o1, o2, o3, x0, x1, x2, x3, x4, x5, x6, x7, x8, x9, x10, _⟩ => ?shwy3) ?_
       case shwy3 => go_simp; try rfl
       refine tH 4 ?shwv4 hS (fun w1 ⟨o0, o1, o2, o3, x0, x1, x2, x3, x4, x5, x6, x7, x8, x9, x10, _⟩ => ?shwy4) ?_
       case shwy4 => go_simp; try rfl
       refine tH 5 ?shwv5 hS (fun w1 ⟨o0, o1, o2, o3, x0, x1, x2, x3, x4, x5, x6, x7, x8, x9, x10, _⟩ => ?shwy5) ?_
       case shwy5 => go_simp; try rfl
       refine tH 6 ?shwv6 hS (fun w1 ⟨o0, o1, o2, o3, x0, x1, x2, x3, x4, x5, x6, x7, x8, x9, x10, _⟩ => ?shwy6) ?_
       case shwy6 => go_simp; try rfl
       refine tH 7 ?shwv7 hS (fun w1 ⟨o0, o1, o2, o3, x0, x1, x2, x3, x4, x5, x6, x7, x8, x9, x10, _⟩ => ?shwy7) ?_
       case shwy7 => (go_simp; try first | rfl | (rw [if_pos (by omega)]) | (rw [if_neg (by omega)]) | (rw [if_neg (by simp; omega)]) | (split <;> first | (exfalso; omega) | rfl))
       simp only [Act.put, List.setIfInBounds_toArray, List.set_cons_succ, List.set_cons_zero]
       refine tH 8 ?shwv8 hS (fun w1 ⟨o0, o1, o2, o3, x0, x1, x2, x3, x4, x5, x6, x7, x8, x9, x10, _⟩ => ?shwy8) ?_
       case shwy8 => go_simp; try rfl
       refine tH 9 ?shwv9 hS (fun w1 ⟨o0, o1, o2, o3, x0, x1, x2, x3, x4, x5, x6, x7, x8, x9, x10, _⟩ => ?shwy9) ?_
       case shwy9 => go_simp; try rfl
       refine tH 10 ?shwv10 hS (fun w1 ⟨o0, o1, o2, o3, x0, x1, x2, x3, x4, x5, x6, x7, x8, x9, x10, _⟩ => ?shwy10) ?_
       case shwy10 => go_simp; try rfl
       simp only [Act.put, List.setIfInBounds_toArray, List.set_cons_succ, List.set_cons_zero]
       refine doneH (by kernel_rfl) ?_
       have o2 : we.cell? ⟨g, m * 4 + 2, none⟩ = some (.int .u32 (ht : Int)) := hS.2.2.1
       have x1 : we.cell? ⟨e.block, e.off + 1, none⟩ = some (.int .u32 (x.1.2.ttl : Int)) := hS.2.2.2.2.2.1
       have yf := (Row.cellAt HRE.out (m * 4 + 2) (by omega)).2
       clear hS
       gi_wp2_with fail
       have hr6 := Row.set1 HRE.out (m * 4 + 2) (.int .u32 (x.1.2.ttl : Int))
       rw [flat4_set css _ m 2 _ HCS.out HC4.out] at hr6
       have ht6 : TyKept 99 we (we.setCell ⟨g, m * 4 + 2, none⟩ (.int .u32 (x.1.2.ttl : Int))) := TyKept.set _ (Row.typ HRE.out rfl) (by decide)
       refine ⟨⟨i + 1, gs' ++ [(h :: t) ++ [x]], hlt, by go_num, HNX.out.symm, by rw [HHL.out]; omega, HBE.out.setCell (p := ⟨g, m * 4 + 2, none⟩) HG.out _, RSM.push (gs := gs') (HCS.out.trans HGM.out.symm) (by rw [HGM.out]; exact hr6) (HEL5.out) (HTE.out.trans ht6) ?_⟩, by simp [intOf] <;> omega⟩
       have h7 := HRT5.out.keep (HTE.out.trans ht6)
       rw [show min ht x.1.2.ttl = x.1.2.ttl by omega] at h7
       exact h7
      ·have htz : ¬ (x.1.2.ttl : Int) < (ht : Int) := by omega
       have htd : decide (x.1.2.ttl < ht) = false := decide_eq_false htt
       refine tH 0 ?shvv0 hS (fun w1 ⟨o0, o1, o2, o3, x0, x1, x2, x3, x4, x5, x6, x7, x8, x9, x10, _⟩ => ?shvy0) ?_
       case shvy0 => go_simp; try rfl
       refine tH 1 ?shvv1 hS (fun w1 ⟨o0, o1, o2, o3, x0, x1, x2, x3, x4, x5, x6, x7, x8, x9, x10, _⟩ => ?shvy1) ?_
       case shvy1 => go_simp; try rfl
       refine tH 2 ?shvv2 hS (fun w1 ⟨o0, o1, o2, o3, x0, x1, x2, x3, x4, x5, x6, x7, x8, x9, x10, _⟩ => ?shvy2) ?_
       case shvy2 => go_simp; try rfl
       refine tH 3 ?shvv3 hS (fun w1 ⟨o0, o1, o2, o3, x0, x1, x2, x3, x4, x5, x6, x7, x8, x9, x10, _⟩ => ?shvy3) ?_
       case shvy3 => go_simp; try rfl
       refine tH 4 ?shvv4 hS (fun w1 ⟨o0, o1, o2, o3, x0, x1, x2, x3, x4, x5, x6, x7, x8, x9, x10, _⟩ => ?shvy4) ?_
       case shvy4 => go_simp; try rfl
       refine tH 5 ?shvv5 hS (fun w1 ⟨o0, o1, o2, o3, x0, x1, x2, x3, x4, x5, x6, x7, x8, x9, x10, _⟩ => ?shvy5) ?_
       case shvy5 => go_simp; try rfl
       refine tH 6 ?shvv6 hS (fun w1 ⟨o0, o1, o2, o3, x0, x1, x2, x3, x4, x5, x6, x7, x8, x9, x10, _⟩ => ?shvy6) ?_
       case shvy6 => go_simp; try rfl
       refine tH 7 ?shvv7 hS (fun w1 ⟨o0, o1, o2, o3, x0, x1, x2, x3, x4, x5, x6, x7, x8, x9, x10, _⟩ => ?shvy7) ?_
       case shvy7 => (go_simp; try first | rfl | (rw [if_pos (by omega)]) | (rw [if_neg (by omega)]) | (rw [if_neg (by simp; omega)]) | (split <;> first | (exfalso; omega) | rfl))
       simp only [Act.put, List.setIfInBounds_toArray, List.set_cons_succ, List.set_cons_zero]
       refine tH 8 ?shvv8 hS (fun w1 ⟨o0, o1, o2, o3, x0, x1, x2, x3, x4, x5, x6, x7, x8, x9, x10, _⟩ => ?shvy8) ?_
       case shvy8 => go_simp; try rfl
       refine tH 9 ?shvv9 hS (fun w1 ⟨o0, o1, o2, o3, x0, x1, x2, x3, x4, x5, x6, x7, x8, x9, x10, _⟩ => ?shvy9) ?_
       case shvy9 => go_simp; try rfl
       refine tH 10 ?shvv10 hS (fun w1 ⟨o0, o1, o2, o3, x0, x1, x2, x3, x4, x5, x6, x7, x8, x9, x10, _⟩ => ?shvy10) ?_
       case shvy10 => go_simp; try rfl
       simp only [Act.put, List.setIfInBounds_toArray, List.set_cons_succ, List.set_cons_zero]
       refine doneH (by kernel_rfl) ?_
       clear hS
       gi_wp2_with fail
       refine ⟨⟨i + 1, gs' ++ [(h :: t) ++ [x]], hlt, by go_num, HNX.out.symm, by rw [HHL.out]; omega, HBE.out, RSM.push (gs := gs') (HCS.out.trans HGM.out.symm) (by rw [HGM.out]; exact HRE.out) (HEL5.out) HTE.out ?_⟩, by simp [intOf] <;> omega⟩
       have h7 := HRT5.out.keep HTE.out
       rw [show min ht x.1.2.ttl = ht by omega] at h7
       exact h7
    ·have hbq : (h.1.2.type == x.1.2.type) = false := by rw [beq_eq_false_iff_ne]; exact hty
     have HNX : Hid (grp (c.take (i + 1)) = (gs' ++ [h :: t]) ++ [[x]]) := by
      show _ = _
      rw [HE2.out, if_neg]
      unfold Rs.P
      rw [hbq]; simp
     refine tH 14 ?sdv14 hS (fun w1 ⟨o0, o1, o2, o3, x0, x1, x2, x3, x4, x5, x6, x7, x8, x9, x10, _⟩ => ?sdy14) ?_
     case sdy14 => go_simp; try rfl
     refine tH 15 ?sdv15 hS (fun w1 ⟨o0, o1, o2, o3, x0, x1, x2, x3, x4, x5, x6, x7, x8, x9, x10, _⟩ => ?sdy15) ?_
     case sdy15 => go_simp; try rfl
     refine tH 16 ?sdv16 hS (fun w1 ⟨o0, o1, o2, o3, x0, x1, x2, x3, x4, x5, x6, x7, x8, x9, x10, _⟩ => ?sdy16) ?_
     case sdy16 => go_simp; try rfl
     refine tH 17 ?sdv17 hS (fun w1 ⟨o0, o1, o2, o3, x0, x1, x2, x3, x4, x5, x6, x7, x8, x9, x10, _⟩ => ?sdy17) ?_
     case sdy17 => go_simp; try rfl
     refine tH 18 ?sdv18 hS (fun w1 ⟨o0, o1, o2, o3, x0, x1, x2, x3, x4, x5, x6, x7, x8, x9, x10, _⟩ => ?sdy18) ?_
     case sdy18 => (go_simp; try first | rfl | (rw [if_pos (by omega)]) | (rw [if_neg (by omega)]) | (rw [if_neg (by simp; omega)]) | (split <;> first | (exfalso; omega) | rfl))
     refine tH 19 ?sdv19 hS (fun w1 ⟨o0, o1, o2, o3, x0, x1, x2, x3, x4, x5, x6, x7, x8, x9, x10, _⟩ => ?sdy19) ?_
     case sdy19 => go_simp; try rfl
     refine tH 20 ?sdv20 hS (fun w1 ⟨o0, o1, o2, o3, x0, x1, x2, x3, x4, x5, x6, x7, x8, x9, x10, _⟩ => ?sdy20) ?_
     case sdy20 => go_simp; try rfl
     refine tH 21 ?sdv21 hS (fun w1 ⟨o0, o1, o2, o3, x0, x1, x2, x3, x4, x5, x6, x7, x8, x9, x10, _⟩ => ?sdy21) ?_
     case sdy21 => go_simp; try rfl
     simp only [Act.put, List.setIfInBounds_toArray, List.set_cons_succ, List.set_cons_zero]
     refine tH 22 ?sdv22 hS (fun w1 ⟨o0, o1, o2, o3, x0, x1, x2, x3, x4, x5, x6, x7, x8, x9, x10, _⟩ => ?sdy22) ?_
     case sdy22 => go_simp; try rfl
     refine tH 23 ?sdv23 hS (fun w1 ⟨o0, o1, o2, o3, x0, x1, x2, x3, x4, x5, x6, x7, x8, x9, x10, _⟩ => ?sdy23) ?_
     case sdy23 => go_simp; try rfl
     refine tH 24 ?sdv24 hS (fun w1 ⟨o0, o1, o2, o3, x0, x1, x2, x3, x4, x5, x6, x7, x8, x9, x10, _⟩ => ?sdy24) ?_
     case sdy24 => go_simp; try rfl
     refine tH 25 ?sdv25 hS (fun w1 ⟨o0, o1, o2, o3, x0, x1, x2, x3, x4, x5, x6, x7, x8, x9, x10, _⟩ => ?sdy25) ?_
     case sdy25 => go_simp; try rfl
     refine tH 26 ?sdv26 hS (fun w1 ⟨o0, o1, o2, o3, x0, x1, x2, x3, x4, x5, x6, x7, x8, x9, x10, _⟩ => ?sdy26) ?_
     case sdy26 => go_simp; try rfl
     refine tH 27 ?sdv27 hS (fun w1 ⟨o0, o1, o2, o3, x0, x1, x2, x3, x4, x5, x6, x7, x8, x9, x10, _⟩ => ?sdy27) ?_
     case sdy27 => go_simp; try rfl
     refine tH 28 ?sdv28 hS (fun w1 ⟨o0, o1, o2, o3, x0, x1, x2, x3, x4, x5, x6, x7, x8, x9, x10, _⟩ => ?sdy28) ?_
     case sdy28 => go_simp; try rfl
     simp only [Act.put, List.setIfInBounds_toArray, List.set_cons_succ, List.set_cons_zero]
     refine doneH (by kernel_rfl) ?_
     clear hS
     gi_wp2_with fail
     refine drawnH (List.range 26) (Cs [(e, .slice p0 n0 q0), (⟨e.block, e.off + 1, none⟩, .int .u32 (x.1.2.ttl : Int)), (⟨e.block, e.off + 2, none⟩, .int .i64 x.1.2.type), (⟨e.block, e.off + 3, none⟩, .slice p1 n1 q1), (⟨e.block, e.off + 4, none⟩, .slice p2 n2 q2), (⟨e.block, e.off + 5, none⟩, .slice p3 n3 q3), (⟨e.block, e.off + 6, none⟩, .slice p4 n4 q4), (⟨e.block, e.off + 2 + 1, none⟩, .slice p1 n1 q1), (⟨e.block, e.off + 2 + 2, none⟩, .slice p2 n2 q2), (⟨e.block, e.off + 2 + 3, none⟩, .slice p3 n3 q3), (⟨e.block, e.off + 2 + 4, none⟩, .slice p4 n4 q4)]) 27 rfl (by kernel_rfl) ?_
     intro wj hwj
     have HBJ : Hid (Below w1.heap.size w1 wj) := by subst hwj; exact (HBD.out).drew
     have HBW : Hid (Below wd.heap.size wd wj) := by subst hwj; exact (Below.refl wd.heap.size wd).drew
     have hS : Cs [(e, .slice p0 n0 q0), (⟨e.block, e.off + 1, none⟩, .int .u32 (x.1.2.ttl : Int)), (⟨e.block, e.off + 2, none⟩, .int .i64 x.1.2.type), (⟨e.block, e.off + 3, none⟩, .slice p1 n1 q1), (⟨e.block, e.off + 4, none⟩, .slice p2 n2 q2), (⟨e.block, e.off + 5, none⟩, .slice p3 n3 q3), (⟨e.block, e.off + 6, none⟩, .slice p4 n4 q4), (⟨e.block, e.off + 2 + 1, none⟩, .slice p1 n1 q1), (⟨e.block, e.off + 2 + 2, none⟩, .slice p2 n2 q2), (⟨e.block, e.off + 2 + 3, none⟩, .slice p3 n3 q3), (⟨e.block, e.off + 2 + 4, none⟩, .slice p4 n4 q4)] wj := HXS.out wj HBJ.out
     clear hwj
     refine tH 0 ?sgv0 hS (fun w1 ⟨x0, x1, x2, x3, x4, x5, x6, x7, x8, x9, x10, _⟩ => ?sgy0) ?_
     case sgy0 => go_simp; try rfl
     refine tH 1 ?sgv1 hS (fun w1 ⟨x0, x1, x2, x3, x4, x5, x6, x7, x8, x9, x10, _⟩ => ?sgy1) ?_
     case sgy1 => go_simp; try rfl
     refine tH 2 ?sgv2 hS (fun w1 ⟨x0, x1, x2, x3, x4, x5, x6, x7, x8, x9, x10, _⟩ => ?sgy2) ?_
     case sgy2 => go_simp; try rfl
     refine tH 3 ?sgv3 hS (fun w1 ⟨x0, x1, x2, x3, x4, x5, x6, x7, x8, x9, x10, _⟩ => ?sgy3) ?_
     case sgy3 => go_simp; try rfl
     refine tH 4 ?sgv4 hS (fun w1 ⟨x0, x1, x2, x3, x4, x5, x6, x7, x8, x9, x10, _⟩ => ?sgy4) ?_
     case sgy4 => go_simp; try rfl
     refine tH 5 ?sgv5 hS (fun w1 ⟨x0, x1, x2, x3, x4, x5, x6, x7, x8, x9, x10, _⟩ => ?sgy5) ?_
     case sgy5 => go_simp; try rfl
     refine tH 6 ?sgv6 hS (fun w1 ⟨x0, x1, x2, x3, x4, x5, x6, x7, x8, x9, x10, _⟩ => ?sgy6) ?_
     case sgy6 => go_simp; try rfl
     refine tH 7 ?sgv7 hS (fun w1 ⟨x0, x1, x2, x3, x4, x5, x6, x7, x8, x9, x10, _⟩ => ?sgy7) ?_
     case sgy7 => go_simp; try rfl
     simp only [Act.put, List.setIfInBounds_toArray, List.set_cons_succ, List.set_cons_zero]
     refine tH 8 ?sgv8 hS (fun w1 ⟨x0, x1, x2, x3, x4, x5, x6, x7, x8, x9, x10, _⟩ => ?sgy8) ?_
     case sgy8 => go_simp; try rfl
     refine tH 9 ?sgv9 hS (fun w1 ⟨x0, x1, x2, x3, x4, x5, x6, x7, x8, x9, x10, _⟩ => ?sgy9) ?_
     case sgy9 => go_simp; try rfl
     refine tH 10 ?sgv10 hS (fun w1 ⟨x0, x1, x2, x3, x4, x5, x6, x7, x8, x9, x10, _⟩ => ?sgy10) ?_
     case sgy10 => go_simp; try rfl
     refine tH 11 ?sgv11 hS (fun w1 ⟨x0, x1, x2, x3, x4, x5, x6, x7, x8, x9, x10, _⟩ => ?sgy11) ?_
     case sgy11 => go_simp; try rfl
     refine tH 12 ?sgv12 hS (fun w1 ⟨x0, x1, x2, x3, x4, x5, x6, x7, x8, x9, x10, _⟩ => ?sgy12) ?_
     case sgy12 => go_simp; try rfl
     refine tH 13 ?sgv13 hS (fun w1 ⟨x0, x1, x2, x3, x4, x5, x6, x7, x8, x9, x10, _⟩ => ?sgy13) ?_
     case sgy13 => go_simp; try rfl
     refine tH 14 ?sgv14 hS (fun w1 ⟨x0, x1, x2, x3, x4, x5, x6, x7, x8, x9, x10, _⟩ => ?sgy14) ?_
     case sgy14 => go_simp; try rfl
     refine tH 15 ?sgv15 hS (fun w1 ⟨x0, x1, x2, x3, x4, x5, x6, x7, x8, x9, x10, _⟩ => ?sgy15) ?_
     case sgy15 => go_simp; try rfl
     simp only [Act.put, List.setIfInBounds_toArray, List.set_cons_succ, List.set_cons_zero]
     refine tH 16 ?sgv16 hS (fun w1 ⟨x0, x1, x2, x3, x4, x5, x6, x7, x8, x9, x10, _⟩ => ?sgy16) ?_
     case sgy16 => go_simp; try rfl
     refine tH 17 ?sgv17 hS (fun w1 ⟨x0, x1, x2, x3, x4, x5, x6, x7, x8, x9, x10, _⟩ => ?sgy17) ?_
     case sgy17 => go_simp; try rfl
     refine tH 18 ?sgv18 hS (fun w1 ⟨x0, x1, x2, x3, x4, x5, x6, x7, x8, x9, x10, _⟩ => ?sgy18) ?_
     case sgy18 => go_simp; try rfl
     refine tH 19 ?sgv19 hS (fun w1 ⟨x0, x1, x2, x3, x4, x5, x6, x7, x8, x9, x10, _⟩ => ?sgy19) ?_
     case sgy19 => go_simp; try rfl
     refine tH 20 ?sgv20 hS (fun w1 ⟨x0, x1, x2, x3, x4, x5, x6, x7, x8, x9, x10, _⟩ => ?sgy20) ?_
     case sgy20 => go_simp; try rfl
     refine tH 21 ?sgv21 hS (fun w1 ⟨x0, x1, x2, x3, x4, x5, x6, x7, x8, x9, x10, _⟩ => ?sgy21) ?_
     case sgy21 => go_simp; try rfl
     simp only [Act.put, List.setIfInBounds_toArray, List.set_cons_succ, List.set_cons_zero]
     refine oneH 22 (by rfl) (by kernel_rfl) (fun K hK => ?_)
     gi_wp2_with fail
     obtain ⟨wk, hwk⟩ : ∃ W, wj.alloc (.cells #[.int .i64 x.1.2.type, .slice p1 n1 q1, .slice p2 n2 q2, .slice p3 n3 q3, .slice p4 n4 q4] 99) = W := ⟨_, rfl⟩
     obtain ⟨b107, hb107⟩ : ∃ b, wj.heap.size = b := ⟨_, rfl⟩
     have hg107 : GRd 5 (.slice (some ⟨b107, 0, none⟩) 1 1) [encD x] wk := by
      rw [<- hwk, <- hb107, HED.out]
      exact GRd.new [.int .i64 x.1.2.type, .slice p1 n1 q1, .slice p2 n2 q2, .slice p3 n3 q3, .slice p4 n4 q4] rfl (by simp [Value.oneCell']) wj 99
     have ha107 : Below wj.heap.size wj wk := by rw [<- hwk]; exact (Below.refl _ _).alloc (Nat.le_refl _) _
     have hk107 : ∃ c f, wk.heap[b107]? = some (.cells c 99 f) := by
      rw [<- hwk, <- hb107]; exact ⟨_, _, World.alloc_heap_new wj _⟩
     rw [hwk, hb107]
     have HG107 := Lib.hid hg107
     have HA107 := Lib.hid ha107
     have HK107 := Lib.hid hk107
     have HBK := Lib.hid (below5 HBJ.out ha107)
     have HWK := Lib.hid (below5 HBW.out ha107)
     refine hK _ _ (fun _ => HXS.out _ HBK.out) ?_
     clear hK K hwk hb107 hg107 ha107 hk107
     refine oneH 23 (by rfl) (by kernel_rfl) (fun K hK => ?_)
     gi_wp2_with fail
     refine hK _ _ (fun _ => HXS.out _ HBK.out) ?_
     clear hK K
     refine oneH 24 (by rfl) (by kernel_rfl) (fun K hK => ?_)
     gi_wp2_with fail
     obtain ⟨wl, hwl⟩ : ∃ W, wk.alloc (.cells #[.slice p0 n0 q0, .int .i64 x.1.2.type, .int .u32 (x.1.2.ttl : Int), .slice (some ⟨b107, 0, none⟩) 1 1] 173) = W := ⟨_, rfl⟩
     obtain ⟨b109, hb109⟩ : ∃ b, wk.heap.size = b := ⟨_, rfl⟩
     have hg109 : GRd 4 (.slice (some ⟨b109, 0, none⟩) 1 1) [[.slice p0 n0 q0, .int .i64 x.1.2.type, .int .u32 (x.1.2.ttl : Int), .slice (some ⟨b107, 0, none⟩) 1 1]] wl := by
      rw [<- hwl, <- hb109]
      exact GRd.new [.slice p0 n0 q0, .int .i64 x.1.2.type, .int .u32 (x.1.2.ttl : Int), .slice (some ⟨b107, 0, none⟩) 1 1] rfl (by simp [Value.oneCell']) wk 173
     have ha109 : Below wk.heap.size wk wl := by rw [<- hwl]; exact (Below.refl _ _).alloc (Nat.le_refl _) _
     rw [hwl, hb109]
     have HG109 := Lib.hid hg109
     have HA109 := Lib.hid ha109
     have HBL := Lib.hid (below5 HBK.out ha109)
     have HWL := Lib.hid (below5 HWK.out ha109)
     refine hK _ _ (fun _ => HXS.out _ HBL.out) ?_
     clear hK K hwl hb109 hg109 ha109
     have HRL := Lib.hid ((HRD.out).below HWL.out)
     have HSZ : Hid (w1.heap.size <= wl.heap.size) := HBL.out.size
     refine oneH 25 (by rfl) (by kernel_rfl) (fun K hK => ?_)
     gi_wp2_with (gi_at_builtin; go_loud (refine append_g (fun g => w1.heap.size <= g) 173 _ 4 64 info_rset rfl (by decide) rfl _ _ _ Tryz.underlying170 rfl _ (m + 1) (css ++ [[.slice po no qo, .int .i64 h.1.2.type, .int .u32 (ht : Int), .slice od (t.length + 1) cd]]) (by rfl) HRL.out _ [[.slice p0 n0 q0, .int .i64 x.1.2.type, .int .u32 (x.1.2.ttl : Int), .slice (some ⟨b107, 0, none⟩) 1 1]] (by rfl) HG109.out (by simp <;> omega) (by omega) HSZ.out ?_); intro v110 wm hrow110 hgr110; have HR110 := Lib.hid hrow110; have HG110 := Lib.hid hgr110; clear hrow110 hgr110)
     refine hK _ _ (fun _ => HXS.out _ (HBL.out.grown HG110.out HBL.out.size (fun g hg => HRL.out.2 g hg))) ?_
     clear hK K
     refine oneH 26 (by rfl) (by kernel_rfl) (fun K hK => ?_)
     gi_wp2_with fail
     refine hK _ _ (fun h => absurd h (by decide)) ?_
     clear hK K
     refine doneH (by kernel_rfl) ?_
     clear hS
     gi_wp2_with fail
     refine ⟨⟨i + 1, (gs' ++ [h :: t]) ++ [[x]], hlt, by go_num, ?_, by first | (simp; done) | (have hm' : gs'.length = m := HGM.out; simp; omega), HBL.out.grown HG110.out HBL.out.size (fun g hg => HRL.out.2 g hg), ?_⟩, by simp [intOf] <;> omega⟩
     ·exact (HNX.out).symm
     ·have hty : TyKept 99 wl wm := TyKept.grown HG110.out (fun g hg => Row.typ HRL.out hg) (by decide)
      refine RSM.push (gs := (gs' ++ [h :: t])) HLA.out (by rw [HLN.out]; exact HR110.out) HEA.out ((TyKept.below HWL.out).trans hty) ⟨⟨x, [], _, _, _, _, _, rfl, by rw [show Rs.ttl x.1.2 (plE [x]) = x.1.2.ttl from Nat.min_self _]; rfl, HXO.out, ?_⟩, fun po t tt od n cd e a ha => ?_⟩
      ·have hd : GRd 5 (.slice (some ⟨b107, 0, none⟩) 1 1) [encD x] wm := GRd.grown75 (HG107.out.below HA109.out) HG110.out (fun g' hg' e' => by
        obtain ⟨c1, f1, h1⟩ := Row.typ HRL.out hg'
        obtain ⟨c2, f2, h2⟩ := HK107.out
        have h3 := (TyKept.below HA109.out) _ _ _ h2
        rw [e', h3] at h1
        have h4 := Option.some.inj h1
        injection h4 with _ h5 _
        exact absurd h5 (by decide))
       exact datsRd_of (l := [x]) hd
      ·cases e; cases ha
       obtain ⟨c, f, h⟩ := HK107.out
       exact ⟨_, _, hty _ _ _ ((TyKept.below HA109.out) _ _ _ h)⟩
end Go.Proofs.YtneghhbclefmoaaGreat
end
