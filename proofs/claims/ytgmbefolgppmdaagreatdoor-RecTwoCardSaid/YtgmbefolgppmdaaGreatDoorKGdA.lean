/- Records that are few and short. -/
import Derived.Test.YtgmbefolgppmdaaGreatDoorKRcO
import Derived.Test.YtgmbefolgppmdaaGreatDoorKRsA
namespace Go.Proofs.YtgmbefolgppmdaaGreatDoor
open Go.RowKit Go.Shelf Go.Sort
set_option maxRecDepth 100000
structure DF (r : Rc.PRec) : Prop where
 names : r.names.length <= 8
 nums : r.nums.length <= 12
 texts : r.texts.length <= 40
 raw : r.raw.length <= 1100
 name : ∀ n ∈ r.names, Nm.few n = true
 text : ∀ t ∈ r.texts, t.length <= 300
theorem all_of {α : Type} {p : α -> Prop} {l : List α} (h : ∀ j (hj : j < l.length), p l[j]) : ∀ x ∈ l, p x := fun x hx => by
 obtain ⟨j, hj, rfl⟩ := List.mem_iff_getElem.1 hx; exact h j hj
def Says (Q : Prop) (w : World) (e : Ending) (w' : World) : Prop := ∃ b, e = .returned (.bool b) /\ (b = true -> Q) /\ Below w.heap.size w w'
theorem Says.no {Q : Prop} {w w' : World} (h : Below w.heap.size w w') : Says Q w (.returned (.bool false)) w' := ⟨false, rfl, (fun h => by cases h), h⟩
set_option maxHeartbeats 1000000 in
theorem few4_any (vs : List Value) (r : Rc.PRec) (w0 : World) (h : DatRd vs r w0) :
  Calls Tryz.prog 17 #[.agg vs.toArray] w0 (Says (DF r) w0) := by
 obtain ⟨vn, vm, vt, vr, rfl, ⟨us, hus, h1, h1'⟩, h2, h3, h4⟩ := h
 obtain ⟨on, cn, rfl, c1, c1'⟩ := h1.form
 obtain ⟨om, cm, rfl, c2, c2'⟩ := h2.form
 obtain ⟨ot, ct, rfl, c3, c3'⟩ := h3.form
 obtain ⟨or, cr, rfl, c4, c4'⟩ := Sl.form h4
 have H1 := Lib.hid h1
 have H1' := Lib.hid h1'
 have H3 := Lib.hid h3.cells
 have e2 : (numC r.nums).length = r.nums.length := by simp [numC]
 have e4 : (r.raw.map fun b : UInt8 => Value.int .u8 (b.toNat : Int)).length = r.raw.length := by simp
 rw [e2] at c2 ⊢
 rw [e4] at c4 ⊢
 rw [hus] at c1 ⊢
 unfold maxLen at c1' c2' c4'
 obtain ⟨ln, hln⟩ : ∃ ln, r.names.length = ln := ⟨_, rfl⟩
 obtain ⟨lm, hlm⟩ : ∃ lm, r.nums.length = lm := ⟨_, rfl⟩
 obtain ⟨lt, hlt⟩ : ∃ lt, r.texts.length = lt := ⟨_, rfl⟩
 obtain ⟨lr, hlr⟩ : ∃ lr, r.raw.length = lr := ⟨_, rfl⟩
 rw [hln] at c1 ⊢
 rw [hlm] at c2 ⊢
 rw [hlt] at c3 ⊢
 rw [hlr] at c4 ⊢
 have HUS := Lib.hid (hus.trans hln)
 have HL := Lib.hid (And.intro hln (And.intro hlm (And.intro hlt hlr)))
 obtain ⟨W1, hW1⟩ : ∃ W1, w0.alloc (.cells #[.int .i64 r.type, .slice on ln cn, .slice om lm cm, .slice ot lt ct, .slice or lr cr] 29) = W1 := ⟨_, rfl⟩
 have hb1 : Below w0.heap.size w0 W1 := by subst hW1; exact (Below.refl _ _).alloc (Nat.le_refl _) _
 have hblk : Blk w0.heap.size #[.int .i64 r.type, .slice on ln cn, .slice om lm cm, .slice ot lt ct, .slice or lr cr] 29 W1 := by subst hW1; exact Blk.new w0 _ _
 have d1 : W1.cell? ⟨w0.heap.size, 1, none⟩ = some _ := hblk.cell 1
 have d2 : W1.cell? ⟨w0.heap.size, 2, none⟩ = some _ := hblk.cell 2
 have d3 : W1.cell? ⟨w0.heap.size, 3, none⟩ = some _ := hblk.cell 3
 have d4 : W1.cell? ⟨w0.heap.size, 4, none⟩ = some _ := hblk.cell 4
 have HB := Lib.hid hb1
 have HBL := Lib.hid hblk
 clear h1 h1' h2 h3 h4 hb1 hblk hln hlm hlt hlr e2 e4 hus
 by_cases g1 : 8 < ln
 ·have g1' : (8 : Int) < (ln : Int) := by omega
  have g1d : decide (8 < (ln : Int)) = true := by simp; omega
  go_enter Tryz.func17, Tryz.ntmps17
  go_wp2_with fail
  go_ret
  exact Says.no HB.out
 by_cases g2 : 12 < lm
 ·have g1' : ¬ (8 : Int) < (ln : Int) := by omega
  have g1d : decide (8 < (ln : Int)) = false := by simp; omega
  have g2' : (12 : Int) < (lm : Int) := by omega
  have g2d : decide (12 < (lm : Int)) = true := by simp; omega
  go_enter Tryz.func17, Tryz.ntmps17
  go_wp2_with fail
  go_ret
  exact Says.no HB.out
 by_cases g3 : 40 < lt
 ·have g1' : ¬ (8 : Int) < (ln : Int) := by omega
  have g1d : decide (8 < (ln : Int)) = false := by simp; omega
  have g2' : ¬ (12 : Int) < (lm : Int) := by omega
  have g2d : decide (12 < (lm : Int)) = false := by simp; omega
  have g3' : (40 : Int) < (lt : Int) := by omega
  have g3d : decide (40 < (lt : Int)) = true := by simp; omega
  go_enter Tryz.func17, Tryz.ntmps17
  go_wp2_with fail
  go_ret
  exact Says.no HB.out
 by_cases g4 : 1100 < lr
 ·have g1' : ¬ (8 : Int) < (ln : Int) := by omega
  have g1d : decide (8 < (ln : Int)) = false := by simp; omega
  have g2' : ¬ (12 : Int) < (lm : Int) := by omega
  have g2d : decide (12 < (lm : Int)) = false := by simp; omega
  have g3' : ¬ (40 : Int) < (lt : Int) := by omega
  have g3d : decide (40 < (lt : Int)) = false := by simp; omega
  have g4' : (1100 : Int) < (lr : Int) := by omega
  have g4d : decide (1100 < (lr : Int)) = true := by simp; omega
  go_enter Tryz.func17, Tryz.ntmps17
  go_wp2_with fail
  go_ret
  exact Says.no HB.out
 have g1' : ¬ (8 : Int) < (ln : Int) := by omega
 have g1d : decide (8 < (ln : Int)) = false := by simp; omega
 have g2' : ¬ (12 : Int) < (lm : Int) := by omega
 have g2d : decide (12 < (lm : Int)) = false := by simp; omega
 have g3' : ¬ (40 : Int) < (lt : Int) := by omega
 have g3d : decide (40 < (lt : Int)) = false := by simp; omega
 have g4' : ¬ (1100 : Int) < (lr : Int) := by omega
 have g4d : decide (1100 < (lr : Int)) = false := by simp; omega
 have hn8 : (ln : Int) <= 8 := by omega
 have ht40 : (lt : Int) <= 40 := by omega
 go_enter Tryz.func17, Tryz.ntmps17
 go_wp2
 go_loopw [3] (fun i wr => ∃ k : Nat, k <= ln /\ i = .int .i64 k /\ Below W1.heap.size W1 wr /\ ∀ j (h : j < r.names.length), j < k -> Nm.few r.names[j] = true) (fun i _ => ln - (intOf i).toNat)
 case atStart => exact ⟨0, Nat.zero_le _, rfl, Below.refl _ _, fun j _ h => by omega⟩
 case round =>
  obtain ⟨k, hk, rfl, hb, hall⟩ := hrel
  have q1 : wr.cell? ⟨w0.heap.size, 1, none⟩ = some _ := (HBL.out.below hb).cell 1
  have q3 : wr.cell? ⟨w0.heap.size, 3, none⟩ = some _ := (HBL.out.below hb).cell 3
  have HA := Lib.hid hall
  clear hall d1 d2 d3 d4 hW1
  by_cases hlt : k < ln
  ·have hlz : (k : Int) < (ln : Int) := by omega
   have hku : k < us.length := by rw [HUS.out]; exact hlt
   have hkn : k < r.names.length := by rw [HL.out.1]; exact hlt
   obtain ⟨a, rfl, y1⟩ := H1.out.cells _ (below5 HB.out hb) k hku
   obtain ⟨v, hv⟩ : ∃ v, us[k] = v := ⟨_, rfl⟩
   rw [hv] at y1
   have hrd : Rd v r.names[k] wr := by rw [<- hv]; exact (H1'.out k hku hkn).below (below5 HB.out hb)
   obtain ⟨o5, c5, rfl, _, _⟩ := hrd.form
   have HF := Lib.hid (few_any _ _ _ hrd)
   obtain ⟨bz, hbz⟩ : ∃ bz, Nm.few r.names[k] = bz := ⟨_, rfl⟩
   have HBZ := Lib.hid hbz
   rw [hbz] at HF
   clear hrd hv hbz
   go_wp2_with fail
   refine HF.out.mono ?_
   rintro e w5 ⟨rfl, b5⟩
   cases bz with
   | true =>
    have hb5 := below5 hb b5
    clear b5 hb
    go_wp2_with fail
    refine ⟨⟨k + 1, hlt, by go_num, hb5, fun j hj hjk => ?_⟩, by simp [intOf]; omega⟩
    rcases Nat.lt_succ_iff_lt_or_eq.1 hjk with h | h
    ·exact HA.out j hj h
    ·subst h; exact HBZ.out
   | false =>
    have hb5 := below5 (below5 HB.out hb) b5
    clear b5 hb
    go_wp2_with fail
    go_ret
    exact Says.no hb5
  ·have hlz : ¬ ((k : Int) < (ln : Int)) := by omega
   have HN := Lib.hid (all_of (p := fun n => Nm.few n = true) (l := r.names) (fun j hj => HA.out j hj (by have := HL.out.1; omega)))
   have HBB := Lib.hid hb
   go_wp2
   go_loopw [4] (fun i wx => ∃ k : Nat, k <= lt /\ i = .int .i64 k /\ wx = wr /\ ∀ j (h : j < r.texts.length), j < k -> r.texts[j].length <= 300) (fun i _ => lt - (intOf i).toNat)
   case atStart => exact ⟨0, Nat.zero_le _, rfl, rfl, fun j _ h => by omega⟩
   case round =>
    obtain ⟨k', hk', rfl, rfl, hall⟩ := hrel
    have HA' := Lib.hid hall
    clear hall
    by_cases hlt' : k' < lt
    ·have hlz' : (k' : Int) < (lt : Int) := by omega
     have hkt : k' < r.texts.length := by rw [HL.out.2.2.1]; exact hlt'
     obtain ⟨a, rfl, y1⟩ := H3.out _ (below5 HB.out HBB.out) k' hkt
     obtain ⟨m, hm⟩ : ∃ m, r.texts[k'].length = m := ⟨_, rfl⟩
     obtain ⟨tx, htx⟩ : ∃ tx, r.texts[k'] = tx := ⟨_, rfl⟩
     have HM := Lib.hid hm
     rw [htx] at y1 hm
     clear htx
     by_cases g5 : 300 < m
     ·have g5' : (300 : Int) < (m : Int) := by omega
      have g5d : decide (300 < (m : Int)) = true := by simp; omega
      have g5n : decide (300 < m) = true := by simp; omega
      go_wp2_with fail
      go_ret
      exact Says.no (below5 HB.out HBB.out)
     ·have g5' : ¬ (300 : Int) < (m : Int) := by omega
      have g5d : decide (300 < (m : Int)) = false := by simp; omega
      have g5n : decide (300 < m) = false := by simp; omega
      go_wp2_with fail
      refine ⟨⟨k' + 1, hlt', by go_num, by trivial, fun j hj hjk => ?_⟩, by simp [intOf]; omega⟩
      rcases Nat.lt_succ_iff_lt_or_eq.1 hjk with h | h
      ·exact HA'.out j hj h
      ·subst h; rw [HM.out]; omega
    ·have hlz' : ¬ ((k' : Int) < (lt : Int)) := by omega
     have HT := Lib.hid (all_of (p := fun n => n.length <= 300) (l := r.texts) (fun j hj => HA'.out j hj (by have := HL.out.2.2.1; omega)))
     go_wp2
     go_ret
     obtain ⟨l1, l2, l3, l4⟩ := HL.out
     exact ⟨true, rfl, fun _ => ⟨by omega, by omega, by omega, by omega, HN.out, HT.out⟩, below5 HB.out HBB.out⟩
structure RF (l : List RP) : Prop where
 len : l.length <= 60
 owner : ∀ x ∈ l, Nm.few x.2.owner = true
 dat : ∀ x ∈ l, DF x.2
theorem RecsRd.el' {o : Option Addr} {n cap : Nat} {l : List RP} {W : World} (h : RecsRd (.slice o n cap) l W) : ∀ W', Below W.heap.size W W' -> ∀ (i : Nat) (hi : i < l.length) (c0 c1 c2 c3 c4 c5 c6 : Value), l[i].1 = [c0, c1, c2, c3, c4, c5, c6] -> ∃ a, o = some a /\ Bxa7 (a.add (i * 7)) c0 c1 c2 c3 c4 c5 c6 W' := by
 intro W' hb i hi c0 c1 c2 c3 c4 c5 c6 hx
 have h7 : ∀ x ∈ l, x.1.length = 7 := fun x hx => (h.1 x hx).len
 obtain ⟨_, o', cap', h1, h2, h3, h4, h5⟩ := h.kept hb
 cases h1
 have hk : ∀ c, c < 7 -> ∃ a, o = some a /\ W'.cell? (a.add (i * 7 + c)) = (l[i].1)[c]? := fun c hc => by
  have hl : i * 7 + c < (encP l).length := by rw [encP_len h7]; omega
  obtain ⟨a, ha, hcell⟩ := h5 _ hl
  refine ⟨a, ha, ?_⟩
  rw [hcell, <- encP_get h7 i c hi hc, List.getElem?_eq_getElem hl]
 obtain ⟨a, ha, k0⟩ := hk 0 (by omega)
 have hk' : ∀ c, c < 7 -> W'.cell? (a.add (i * 7 + c)) = (l[i].1)[c]? := fun c hc => by
  obtain ⟨a', ha', h⟩ := hk c hc
  rw [ha] at ha'; cases ha'; exact h
 rw [hx] at hk'
 exact ⟨a, ha, hk' 0 (by omega), by rw [<- addr7 a _ 1 (by omega)]; exact hk' 1 (by omega), by rw [<- addr7 a _ 2 (by omega)]; exact hk' 2 (by omega), by rw [<- addr7 a _ 3 (by omega)]; exact hk' 3 (by omega), by rw [<- addr7 a _ 4 (by omega)]; exact hk' 4 (by omega), by rw [<- addr7 a _ 5 (by omega)]; exact hk' 5 (by omega), by rw [<- addr7 a _ 6 (by omega)]; exact hk' 6 (by omega)⟩
theorem RecRd.cells {vs : List Value} {r : Rc.PRec} {W : World} (h : RecRd vs r W) : ∃ p0 n0 q0 p1 n1 q1 p2 n2 q2 p3 n3 q3 p4 n4 q4, vs = [.slice p0 n0 q0, .int .u32 (r.ttl : Int), .int .i64 r.type, .slice p1 n1 q1, .slice p2 n2 q2, .slice p3 n3 q3, .slice p4 n4 q4] /\ Rd (.slice p0 n0 q0) r.owner W /\ DatRd [.int .i64 r.type, .slice p1 n1 q1, .slice p2 n2 q2, .slice p3 n3 q3, .slice p4 n4 q4] r W := by
 obtain ⟨vo, ds, h0, ho, hd⟩ := h
 obtain ⟨p0, q0, rfl, _⟩ := id ho
 obtain ⟨vn, vm, vt, vr, rfl, ⟨us, _, ⟨p1, q1, rfl, _⟩, _⟩, ⟨p2, q2, rfl, _⟩, ⟨p3, q3, rfl, _⟩, ⟨p4, q4, rfl, _⟩⟩ := id hd
 exact ⟨_, _, _, _, _, _, _, _, _, _, _, _, _, _, _, h0, ho, hd⟩
set_option maxHeartbeats 1000000 in
theorem few5_any (v : Value) (l : List RP) (w0 : World) (hv : RecsRd v l w0) :
  Calls Tryz.prog 5 #[v] w0 (Says (RF l) w0) := by
 obtain ⟨h0, o, cap, rfl, hc1, hc2, _⟩ := id hv
 have HV := Lib.hid hv.el'
 have H0 := Lib.hid h0
 unfold maxLen at hc2
 clear hv h0
 by_cases g1 : 60 < l.length
 ·have g1' : (60 : Int) < (l.length : Int) := by omega
  go_enter Tryz.func5, Tryz.ntmps5
  go_wp2
  go_ret
  exact Says.no (Below.refl _ _)
 have g1' : ¬ (60 : Int) < (l.length : Int) := by omega
 have g60 : (l.length : Int) <= 60 := by omega
 go_enter Tryz.func5, Tryz.ntmps5
 go_wp2
 go_loopw [3] (fun i wr => ∃ k : Nat, k <= l.length /\ i = .int .i64 k /\ Below w0.heap.size w0 wr /\ ∀ j (h : j < l.length), j < k -> Nm.few l[j].2.owner = true /\ DF l[j].2) (fun i _ => l.length - (intOf i).toNat)
 case atStart => exact ⟨0, Nat.zero_le _, rfl, Below.refl _ _, fun j _ h => by omega⟩
 case round =>
  obtain ⟨k, hk, rfl, hb, hall⟩ := hrel
  have HA := Lib.hid hall
  clear hall
  by_cases hlt : k < l.length
  ·have hlz : (k : Int) < (l.length : Int) := by omega
   obtain ⟨x, hx⟩ : ∃ x, l[k] = x := ⟨_, rfl⟩
   have hxr := H0.out x (by rw [<- hx]; exact List.getElem_mem _)
   obtain ⟨p0, n0, q0, p1, n1, q1, p2, n2, q2, p3, n3, q3, p4, n4, q4, ex, hro, hrd⟩ := hxr.cells
   have HY : Hid (∀ W', Below w0.heap.size w0 W' -> ∃ a, o = some a /\ Bxa7 (a.add (k * 7)) (.slice p0 n0 q0) (.int .u32 (x.2.ttl : Int)) (.int .i64 x.2.type) (.slice p1 n1 q1) (.slice p2 n2 q2) (.slice p3 n3 q3) (.slice p4 n4 q4) W') := fun W' hW => HV.out W' hW k hlt _ _ _ _ _ _ _ (by rw [hx]; exact ex)
   obtain ⟨a, rfl, e0, e1, e2, e3, e4, e5, e6⟩ := HY.out _ hb
   have HF := Lib.hid (few_any _ _ _ (hro.below hb))
   have HD := Lib.hid (fun W' (h : Below w0.heap.size w0 W') => few4_any _ _ _ (hrd.below h))
   have HX := Lib.hid hx
   obtain ⟨bz, hbz⟩ : ∃ bz, Nm.few x.2.owner = bz := ⟨_, rfl⟩
   have HBZ := Lib.hid hbz
   rw [hbz] at HF
   clear hbz hx ex hro hrd hxr
   cases bz with
   | false =>
    go_wp2_with fail
    refine HF.out.mono ?_
    rintro e w5 ⟨rfl, b5⟩
    have hb5 := below5 hb b5
    clear b5 hb
    go_wp2_with fail
    go_ret
    exact Says.no hb5
   | true =>
    go_wp2_with fail
    refine HF.out.mono ?_
    rintro e w5 ⟨rfl, b5⟩
    have hb5 := below5 hb b5
    obtain ⟨a', ha', y0, y1, y2, y3, y4, y5, y6⟩ := HY.out _ hb5
    cases ha'
    have HD5 := Lib.hid (HD.out _ hb5)
    clear b5 hb e0 e1 e2 e3 e4 e5 e6
    go_wp2_with fail
    refine HD5.out.mono ?_
    rintro e w6 ⟨b, rfl, hq, b6⟩
    have hb6 := below5 hb5 b6
    have HQ := Lib.hid hq
    clear b6 hb5 hq y0 y1 y2 y3 y4 y5 y6
    cases b with
    | true =>
     go_wp2_with fail
     refine ⟨⟨k + 1, hlt, by go_num, hb6, fun j hj hjk => ?_⟩, by simp [intOf]; omega⟩
     rcases Nat.lt_succ_iff_lt_or_eq.1 hjk with h | h
     ·exact HA.out j hj h
     ·subst h; rw [HX.out]; exact ⟨HBZ.out, by first | exact HQ.out rfl | exact HQ.out trivial | exact HQ.out⟩
    | false =>
     go_wp2_with fail
     go_ret
     exact Says.no hb6
  ·have hlz : ¬ ((k : Int) < (l.length : Int)) := by omega
   have HN := Lib.hid (all_of (p := fun x : RP => Nm.few x.2.owner = true /\ DF x.2) (l := l) (fun j hj => HA.out j hj (by omega)))
   go_wp2
   go_ret
   exact ⟨true, rfl, fun _ => ⟨by omega, fun x hx => (HN.out x hx).1, fun x hx => (HN.out x hx).2⟩, hb⟩
end Go.Proofs.YtgmbefolgppmdaaGreatDoor
