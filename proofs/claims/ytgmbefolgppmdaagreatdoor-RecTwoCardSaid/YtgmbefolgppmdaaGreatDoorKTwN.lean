/- rdata.of, form: what a type has, whether data have it. -/
import Derived.Test.YtgmbefolgppmdaaGreatDoorKTwL
section
namespace Go.Proofs.YtgmbefolgppmdaaGreatDoor
open Go.RowKit Go.Shelf Go.Sort
set_option maxRecDepth 100000
namespace Tw
def shp (t : Int) : Int × Int × Int × Int :=
 if t = 1 then (0, 0, 0, 4) else if t = 28 then (0, 0, 0, 16) else if t = 15 then (1, 1, 0, 0) else if t = 6 then (2, 5, 0, 0) else if t = 16 then (0, 0, -1, 0)
 else if t = 2 \/ t = 5 \/ t = 12 \/ t = 39 then (1, 0, 0, 0) else (0, 0, 0, -1)
end Tw
theorem retb_eq {b c : Bool} (h : b = c) : Ending.returned (.bool c) = Ending.returned (.bool b) := by rw [h]
set_option maxHeartbeats 2000000 in
theorem of2_any (t a b c d : Int) (h : Tw.shp t = (a, b, c, d)) (w : World) : Calls Tryz.prog 82 #[.int .i64 t] w (Gives (.agg #[.int .i64 a, .int .i64 b, .int .i64 c, .int .i64 d]) w) := by
 by_cases h1 : t = 1
 ·subst h1
  obtain ⟨rfl, rfl, rfl, rfl⟩ : a = 0 /\ b = 0 /\ c = 0 /\ d = 4 := by simpa [Tw.shp, eq_comm] using h
  clear h
  go_enter Tryz.func82, Tryz.ntmps82
  go_wp2
  refine bodyPost_ret (v := .agg #[.int .i64 0, .int .i64 0, .int .i64 0, .int .i64 4]) (by simp [results, Tryz.results82, go_sem]; try rfl) rfl ?_
  exact ⟨rfl, (Below.refl _ _).alloc (Nat.le_refl _) _⟩
 have n1 : (t == 1) = false := by simpa using h1
 by_cases h28 : t = 28
 ·subst h28
  obtain ⟨rfl, rfl, rfl, rfl⟩ : a = 0 /\ b = 0 /\ c = 0 /\ d = 16 := by simpa [Tw.shp, eq_comm] using h
  clear h
  go_enter Tryz.func82, Tryz.ntmps82
  go_wp2
  refine bodyPost_ret (v := .agg #[.int .i64 0, .int .i64 0, .int .i64 0, .int .i64 16]) (by simp [results, Tryz.results82, go_sem]; try rfl) rfl ?_
  exact ⟨rfl, (Below.refl _ _).alloc (Nat.le_refl _) _⟩
 have n28 : (t == 28) = false := by simpa using h28
 by_cases h15 : t = 15
 ·subst h15
  obtain ⟨rfl, rfl, rfl, rfl⟩ : a = 1 /\ b = 1 /\ c = 0 /\ d = 0 := by simpa [Tw.shp, eq_comm] using h
  clear h
  go_enter Tryz.func82, Tryz.ntmps82
  go_wp2
  refine bodyPost_ret (v := .agg #[.int .i64 1, .int .i64 1, .int .i64 0, .int .i64 0]) (by simp [results, Tryz.results82, go_sem]; try rfl) rfl ?_
  exact ⟨rfl, (Below.refl _ _).alloc (Nat.le_refl _) _⟩
 have n15 : (t == 15) = false := by simpa using h15
 by_cases h6 : t = 6
 ·subst h6
  obtain ⟨rfl, rfl, rfl, rfl⟩ : a = 2 /\ b = 5 /\ c = 0 /\ d = 0 := by simpa [Tw.shp, eq_comm] using h
  clear h
  go_enter Tryz.func82, Tryz.ntmps82
  go_wp2
  refine bodyPost_ret (v := .agg #[.int .i64 2, .int .i64 5, .int .i64 0, .int .i64 0]) (by simp [results, Tryz.results82, go_sem]; try rfl) rfl ?_
  exact ⟨rfl, (Below.refl _ _).alloc (Nat.le_refl _) _⟩
 have n6 : (t == 6) = false := by simpa using h6
 by_cases h16 : t = 16
 ·subst h16
  obtain ⟨rfl, rfl, rfl, rfl⟩ : a = 0 /\ b = 0 /\ c = -1 /\ d = 0 := by simpa [Tw.shp, eq_comm] using h
  clear h
  go_enter Tryz.func82, Tryz.ntmps82
  go_wp2
  refine bodyPost_ret (v := .agg #[.int .i64 0, .int .i64 0, .int .i64 (-1), .int .i64 0]) (by simp [results, Tryz.results82, go_sem]; try rfl) rfl ?_
  exact ⟨rfl, (Below.refl _ _).alloc (Nat.le_refl _) _⟩
 have n16 : (t == 16) = false := by simpa using h16
 by_cases h2 : t = 2
 ·subst h2
  obtain ⟨rfl, rfl, rfl, rfl⟩ : a = 1 /\ b = 0 /\ c = 0 /\ d = 0 := by simpa [Tw.shp, eq_comm] using h
  clear h
  go_enter Tryz.func82, Tryz.ntmps82
  go_wp2
  refine bodyPost_ret (v := .agg #[.int .i64 1, .int .i64 0, .int .i64 0, .int .i64 0]) (by simp [results, Tryz.results82, go_sem]; try rfl) rfl ?_
  exact ⟨rfl, (Below.refl _ _).alloc (Nat.le_refl _) _⟩
 have n2 : (t == 2) = false := by simpa using h2
 by_cases h5 : t = 5
 ·subst h5
  obtain ⟨rfl, rfl, rfl, rfl⟩ : a = 1 /\ b = 0 /\ c = 0 /\ d = 0 := by simpa [Tw.shp, eq_comm] using h
  clear h
  go_enter Tryz.func82, Tryz.ntmps82
  go_wp2
  refine bodyPost_ret (v := .agg #[.int .i64 1, .int .i64 0, .int .i64 0, .int .i64 0]) (by simp [results, Tryz.results82, go_sem]; try rfl) rfl ?_
  exact ⟨rfl, (Below.refl _ _).alloc (Nat.le_refl _) _⟩
 have n5 : (t == 5) = false := by simpa using h5
 by_cases h12 : t = 12
 ·subst h12
  obtain ⟨rfl, rfl, rfl, rfl⟩ : a = 1 /\ b = 0 /\ c = 0 /\ d = 0 := by simpa [Tw.shp, eq_comm] using h
  clear h
  go_enter Tryz.func82, Tryz.ntmps82
  go_wp2
  refine bodyPost_ret (v := .agg #[.int .i64 1, .int .i64 0, .int .i64 0, .int .i64 0]) (by simp [results, Tryz.results82, go_sem]; try rfl) rfl ?_
  exact ⟨rfl, (Below.refl _ _).alloc (Nat.le_refl _) _⟩
 have n12 : (t == 12) = false := by simpa using h12
 by_cases h39 : t = 39
 ·subst h39
  obtain ⟨rfl, rfl, rfl, rfl⟩ : a = 1 /\ b = 0 /\ c = 0 /\ d = 0 := by simpa [Tw.shp, eq_comm] using h
  clear h
  go_enter Tryz.func82, Tryz.ntmps82
  go_wp2
  refine bodyPost_ret (v := .agg #[.int .i64 1, .int .i64 0, .int .i64 0, .int .i64 0]) (by simp [results, Tryz.results82, go_sem]; try rfl) rfl ?_
  exact ⟨rfl, (Below.refl _ _).alloc (Nat.le_refl _) _⟩
 have n39 : (t == 39) = false := by simpa using h39
 obtain ⟨rfl, rfl, rfl, rfl⟩ : a = 0 /\ b = 0 /\ c = 0 /\ d = -1 := by simpa [Tw.shp, eq_comm, h1, h28, h15, h6, h16, h2, h5, h12, h39] using h
 clear h
 go_enter Tryz.func82, Tryz.ntmps82
 go_wp2
 refine bodyPost_ret (v := .agg #[.int .i64 0, .int .i64 0, .int .i64 0, .int .i64 (-1)]) (by simp [results, Tryz.results82, go_sem]; try rfl) rfl ?_
 exact ⟨rfl, (Below.refl _ _).alloc (Nat.le_refl _) _⟩
set_option maxHeartbeats 4000000 in
theorem formF_any (vs : List Value) (r : Rc.PRec) (w : World) (h : DatRd vs r w) (hf : DF r) (t a b d : Int) (ht : r.type = t) (hs : Tw.shp t = (a, b, 0, d)) (hc : Tw.cnt t = (a, b, d)) (hd : 0 <= d) (h16 : t ≠ 16) :
  Calls Tryz.prog 51 #[.agg vs.toArray] w (Gives (.bool (decide (Tw.form r))) w) := by
 obtain ⟨vn, vm, vt, vr, rfl, ⟨us, hus, ⟨p1, q1, rfl, _⟩, _⟩, ⟨p2, q2, rfl, _⟩, ⟨p3, q3, rfl, _⟩, ⟨p4, q4, rfl, _⟩⟩ := h
 obtain ⟨ln, hln⟩ : ∃ n, us.length = n := ⟨_, rfl⟩
 obtain ⟨lm, hlm⟩ : ∃ n, (numC r.nums).length = n := ⟨_, rfl⟩
 obtain ⟨lt, hlt⟩ : ∃ n, r.texts.length = n := ⟨_, rfl⟩
 obtain ⟨lr, hlr⟩ : ∃ n, (r.raw.map fun b : UInt8 => Value.int .u8 (b.toNat : Int)).length = n := ⟨_, rfl⟩
 rw [hln, hlm, hlt, hlr]
 have e1 : r.names.length = ln := by rw [<- hus]; exact hln
 have e2 : r.nums.length = lm := by rw [<- hlm]; simp [numC]
 have e4 : r.raw.length = lr := by rw [<- hlr]; simp
 have b1 : (ln : Int) <= 8 := by have := hf.names; omega
 have b2 : (lm : Int) <= 12 := by have := hf.nums; omega
 have b3 : (lt : Int) <= 40 := by have := hf.texts; omega
 have b4 : (lr : Int) <= 1100 := by have := hf.raw; omega
 have HL := Lib.hid (And.intro e1 (And.intro e2 (And.intro hlt e4)))
 obtain ⟨bb, hbb⟩ : ∃ b, decide (Tw.form r) = b := ⟨_, rfl⟩
 have HBB := Lib.hid hbb
 rw [hbb]
 clear hus hln hlm hlt hlr e1 e2 e4 hf hbb
 have HCNT : Hid (Tw.cnt r.type = (a, b, d)) := Lib.hid (by rw [ht]; exact hc)
 have HTX : Hid (Tw.txs r ↔ lt = 0) := by show _ ↔ _; unfold Tw.txs; rw [if_neg (by rw [ht]; exact h16), HL.out.2.2.1]
 rw [ht]
 have HS := Lib.hid hs
 have hd1 : decide (d < 0) = false := by simpa using hd
 have hd2 : ¬ d < 0 := by omega
 clear ht hs hc h16
 refine (callsIn_wide (n := 0)).1 ?_
 refine callsIn_of_wp Tryz.func51 rfl trivial ?_ rfl
 simp only [Tryz.ntmps51, List.size_toArray, List.length_cons, List.length_nil, Nat.reduceAdd, Nat.reduceSub, Array.replicate_succ, Array.replicate_zero, List.push_toArray, List.append_toArray, List.nil_append, List.cons_append]
 gi_wp2_with fail
 refine (callsIn_wide.2 (of2_any t a b 0 d HS.out _)).mono ?_
 rintro e w2 ⟨rfl, b2'⟩
 have hb2 : Below w.heap.size w w2 := ((Below.refl _ _).alloc (Nat.le_refl _) _).trans (b2'.mono (by simp))
 have k0 : Blk w.heap.size #[.int .i64 t, .slice p1 ln q1, .slice p2 lm q2, .slice p3 lt q3, .slice p4 lr q4] 29 w2 := (Blk.new w _ _).below b2'
 have hlt := k0.lt
 have HB2 := Lib.hid hb2
 have HLT := Lib.hid hlt
 have c1 : (w2.alloc (.cells #[.int .i64 a, .int .i64 b, .int .i64 0, .int .i64 d] 113)).cell? ⟨w.heap.size, 1, none⟩ = some (.slice p1 ln q1) := (k0.alloc _).cell 1
 have c2 : (w2.alloc (.cells #[.int .i64 a, .int .i64 b, .int .i64 0, .int .i64 d] 113)).cell? ⟨w.heap.size, 2, none⟩ = some (.slice p2 lm q2) := (k0.alloc _).cell 2
 have c3 : (w2.alloc (.cells #[.int .i64 a, .int .i64 b, .int .i64 0, .int .i64 d] 113)).cell? ⟨w.heap.size, 3, none⟩ = some (.slice p3 lt q3) := (k0.alloc _).cell 3
 have c4 : (w2.alloc (.cells #[.int .i64 a, .int .i64 b, .int .i64 0, .int .i64 d] 113)).cell? ⟨w.heap.size, 4, none⟩ = some (.slice p4 lr q4) := (k0.alloc _).cell 4
 clear b2' hb2 k0 hlt
 by_cases gln : (ln : Int) = a
 case neg =>
  have gln1 : ((ln : Int) == a) = false := by simpa using gln
  have gln2 : decide ((ln : Int) = a) = false := by simpa using gln
  have G := Lib.hid gln
  clear gln
  gi_wp2_with fail
  go_ret
  exact ⟨retb_eq (HBB.out.symm.trans (decide_eq_false (fun hfm => by obtain ⟨x1, x2, x3, x4⟩ := Tw.form_cnt hfm HCNT.out; rw [HL.out.1] at x1; exact G.out x1))), HB2.out.alloc HB2.out.size _⟩
 have gln1 : ((ln : Int) == a) = true := by simpa using gln
 have gln2 : decide ((ln : Int) = a) = true := by simpa using gln
 have Gln := Lib.hid gln
 clear gln
 by_cases glm : (lm : Int) = b
 case neg =>
  have glm1 : ((lm : Int) == b) = false := by simpa using glm
  have glm2 : decide ((lm : Int) = b) = false := by simpa using glm
  have G := Lib.hid glm
  clear glm
  gi_wp2_with fail
  go_ret
  exact ⟨retb_eq (HBB.out.symm.trans (decide_eq_false (fun hfm => by obtain ⟨x1, x2, x3, x4⟩ := Tw.form_cnt hfm HCNT.out; rw [HL.out.2.1] at x2; exact G.out x2))), HB2.out.alloc HB2.out.size _⟩
 have glm1 : ((lm : Int) == b) = true := by simpa using glm
 have glm2 : decide ((lm : Int) = b) = true := by simpa using glm
 have Glm := Lib.hid glm
 clear glm
 by_cases glt : (lt : Int) = 0
 case neg =>
  have glt1 : ((lt : Int) == 0) = false := by simpa using glt
  have glt2 : decide ((lt : Int) = 0) = false := by simpa using glt
  have G := Lib.hid glt
  clear glt
  gi_wp2_with fail
  go_ret
  exact ⟨retb_eq (HBB.out.symm.trans (decide_eq_false (fun hfm => by obtain ⟨x1, x2, x3, x4⟩ := Tw.form_cnt hfm HCNT.out; exact G.out (by have := HTX.out.1 x4; omega)))), HB2.out.alloc HB2.out.size _⟩
 have glt1 : ((lt : Int) == 0) = true := by simpa using glt
 have glt2 : decide ((lt : Int) = 0) = true := by simpa using glt
 have Glt := Lib.hid glt
 clear glt
 by_cases glr : (lr : Int) = d
 case neg =>
  have glr1 : ((lr : Int) == d) = false := by simpa using glr
  have glr2 : decide ((lr : Int) = d) = false := by simpa using glr
  have G := Lib.hid glr
  clear glr
  gi_wp2_with fail
  go_ret
  exact ⟨retb_eq (HBB.out.symm.trans (decide_eq_false (fun hfm => by obtain ⟨x1, x2, x3, x4⟩ := Tw.form_cnt hfm HCNT.out; rw [HL.out.2.2.2] at x3; exact G.out (x3 hd)))), HB2.out.alloc HB2.out.size _⟩
 have glr1 : ((lr : Int) == d) = true := by simpa using glr
 have glr2 : decide ((lr : Int) = d) = true := by simpa using glr
 have Glr := Lib.hid glr
 clear glr
 gi_wp2_with fail
 go_ret
 exact ⟨retb_eq (HBB.out.symm.trans (decide_eq_true (by unfold Tw.form; rw [HCNT.out, HL.out.1, HL.out.2.1, HL.out.2.2.2]; exact ⟨Gln.out, Glm.out, fun _ => Glr.out, HTX.out.2 (by have := Glt.out; omega)⟩))), HB2.out.alloc HB2.out.size _⟩
set_option maxHeartbeats 4000000 in
theorem formU_any (vs : List Value) (r : Rc.PRec) (w : World) (h : DatRd vs r w) (hf : DF r) (t : Int) (ht : r.type = t) (hs : Tw.shp t = (0, 0, 0, -1)) (hc : Tw.cnt t = (0, 0, -1)) (h16 : t ≠ 16) :
  Calls Tryz.prog 51 #[.agg vs.toArray] w (Gives (.bool (decide (Tw.form r))) w) := by
 obtain ⟨vn, vm, vt, vr, rfl, ⟨us, hus, ⟨p1, q1, rfl, _⟩, _⟩, ⟨p2, q2, rfl, _⟩, ⟨p3, q3, rfl, _⟩, ⟨p4, q4, rfl, _⟩⟩ := h
 obtain ⟨ln, hln⟩ : ∃ n, us.length = n := ⟨_, rfl⟩
 obtain ⟨lm, hlm⟩ : ∃ n, (numC r.nums).length = n := ⟨_, rfl⟩
 obtain ⟨lt, hlt⟩ : ∃ n, r.texts.length = n := ⟨_, rfl⟩
 obtain ⟨lr, hlr⟩ : ∃ n, (r.raw.map fun b : UInt8 => Value.int .u8 (b.toNat : Int)).length = n := ⟨_, rfl⟩
 rw [hln, hlm, hlt, hlr]
 have e1 : r.names.length = ln := by rw [<- hus]; exact hln
 have e2 : r.nums.length = lm := by rw [<- hlm]; simp [numC]
 have e4 : r.raw.length = lr := by rw [<- hlr]; simp
 have b1 : (ln : Int) <= 8 := by have := hf.names; omega
 have b2 : (lm : Int) <= 12 := by have := hf.nums; omega
 have b3 : (lt : Int) <= 40 := by have := hf.texts; omega
 have b4 : (lr : Int) <= 1100 := by have := hf.raw; omega
 have HL := Lib.hid (And.intro e1 (And.intro e2 (And.intro hlt e4)))
 obtain ⟨bb, hbb⟩ : ∃ b, decide (Tw.form r) = b := ⟨_, rfl⟩
 have HBB := Lib.hid hbb
 rw [hbb]
 clear hus hln hlm hlt hlr e1 e2 e4 hf hbb
 have HCNT : Hid (Tw.cnt r.type = (0, 0, -1)) := Lib.hid (by rw [ht]; exact hc)
 have HTX : Hid (Tw.txs r ↔ lt = 0) := by show _ ↔ _; unfold Tw.txs; rw [if_neg (by rw [ht]; exact h16), HL.out.2.2.1]
 rw [ht]
 have HS := Lib.hid hs
 clear ht hs hc h16
 refine (callsIn_wide (n := 0)).1 ?_
 refine callsIn_of_wp Tryz.func51 rfl trivial ?_ rfl
 simp only [Tryz.ntmps51, List.size_toArray, List.length_cons, List.length_nil, Nat.reduceAdd, Nat.reduceSub, Array.replicate_succ, Array.replicate_zero, List.push_toArray, List.append_toArray, List.nil_append, List.cons_append]
 gi_wp2_with fail
 refine (callsIn_wide.2 (of2_any t 0 0 0 (-1) HS.out _)).mono ?_
 rintro e w2 ⟨rfl, b2'⟩
 have hb2 : Below w.heap.size w w2 := ((Below.refl _ _).alloc (Nat.le_refl _) _).trans (b2'.mono (by simp))
 have k0 : Blk w.heap.size #[.int .i64 t, .slice p1 ln q1, .slice p2 lm q2, .slice p3 lt q3, .slice p4 lr q4] 29 w2 := (Blk.new w _ _).below b2'
 have hlt := k0.lt
 have HB2 := Lib.hid hb2
 have HLT := Lib.hid hlt
 have c1 : (w2.alloc (.cells #[.int .i64 0, .int .i64 0, .int .i64 0, .int .i64 (-1)] 113)).cell? ⟨w.heap.size, 1, none⟩ = some (.slice p1 ln q1) := (k0.alloc _).cell 1
 have c2 : (w2.alloc (.cells #[.int .i64 0, .int .i64 0, .int .i64 0, .int .i64 (-1)] 113)).cell? ⟨w.heap.size, 2, none⟩ = some (.slice p2 lm q2) := (k0.alloc _).cell 2
 have c3 : (w2.alloc (.cells #[.int .i64 0, .int .i64 0, .int .i64 0, .int .i64 (-1)] 113)).cell? ⟨w.heap.size, 3, none⟩ = some (.slice p3 lt q3) := (k0.alloc _).cell 3
 have c4 : (w2.alloc (.cells #[.int .i64 0, .int .i64 0, .int .i64 0, .int .i64 (-1)] 113)).cell? ⟨w.heap.size, 4, none⟩ = some (.slice p4 lr q4) := (k0.alloc _).cell 4
 have c1b : (w2.alloc (.cells #[.int .i64 0, .int .i64 0, .int .i64 0, .int .i64 (lr : Int)] 113)).cell? ⟨w.heap.size, 1, none⟩ = some (.slice p1 ln q1) := (k0.alloc _).cell 1
 have c2b : (w2.alloc (.cells #[.int .i64 0, .int .i64 0, .int .i64 0, .int .i64 (lr : Int)] 113)).cell? ⟨w.heap.size, 2, none⟩ = some (.slice p2 lm q2) := (k0.alloc _).cell 2
 have c3b : (w2.alloc (.cells #[.int .i64 0, .int .i64 0, .int .i64 0, .int .i64 (lr : Int)] 113)).cell? ⟨w.heap.size, 3, none⟩ = some (.slice p3 lt q3) := (k0.alloc _).cell 3
 have c4b : (w2.alloc (.cells #[.int .i64 0, .int .i64 0, .int .i64 0, .int .i64 (lr : Int)] 113)).cell? ⟨w.heap.size, 4, none⟩ = some (.slice p4 lr q4) := (k0.alloc _).cell 4
 clear b2' hb2 k0 hlt
 by_cases gln : (ln : Int) = 0
 case neg =>
  have gln1 : ((ln : Int) == 0) = false := by simpa using gln
  have gln2 : decide ((ln : Int) = 0) = false := by simpa using gln
  have G := Lib.hid gln
  clear gln
  gi_wp2_with fail
  go_ret
  exact ⟨retb_eq (HBB.out.symm.trans (decide_eq_false (fun hfm => by obtain ⟨x1, x2, x3, x4⟩ := Tw.form_cnt hfm HCNT.out; rw [HL.out.1] at x1; exact G.out x1))), HB2.out.alloc HB2.out.size _⟩
 have gln1 : ((ln : Int) == 0) = true := by simpa using gln
 have gln2 : decide ((ln : Int) = 0) = true := by simpa using gln
 have Gln := Lib.hid gln
 clear gln
 by_cases glm : (lm : Int) = 0
 case neg =>
  have glm1 : ((lm : Int) == 0) = false := by simpa using glm
  have glm2 : decide ((lm : Int) = 0) = false := by simpa using glm
  have G := Lib.hid glm
  clear glm
  gi_wp2_with fail
  go_ret
  exact ⟨retb_eq (HBB.out.symm.trans (decide_eq_false (fun hfm => by obtain ⟨x1, x2, x3, x4⟩ := Tw.form_cnt hfm HCNT.out; rw [HL.out.2.1] at x2; exact G.out x2))), HB2.out.alloc HB2.out.size _⟩
 have glm1 : ((lm : Int) == 0) = true := by simpa using glm
 have glm2 : decide ((lm : Int) = 0) = true := by simpa using glm
 have Glm := Lib.hid glm
 clear glm
 by_cases glt : (lt : Int) = 0
 case neg =>
  have glt1 : ((lt : Int) == 0) = false := by simpa using glt
  have glt2 : decide ((lt : Int) = 0) = false := by simpa using glt
  have G := Lib.hid glt
  clear glt
  gi_wp2_with fail
  go_ret
  exact ⟨retb_eq (HBB.out.symm.trans (decide_eq_false (fun hfm => by obtain ⟨x1, x2, x3, x4⟩ := Tw.form_cnt hfm HCNT.out; exact G.out (by have := HTX.out.1 x4; omega)))), HB2.out.alloc HB2.out.size _⟩
 have glt1 : ((lt : Int) == 0) = true := by simpa using glt
 have glt2 : decide ((lt : Int) = 0) = true := by simpa using glt
 have Glt := Lib.hid glt
 clear glt
 gi_wp2_with fail
 go_ret
 exact ⟨retb_eq (HBB.out.symm.trans (decide_eq_true (by unfold Tw.form; rw [HCNT.out, HL.out.1, HL.out.2.1, HL.out.2.2.2]; exact ⟨Gln.out, Glm.out, fun h => absurd h (by decide), HTX.out.2 (by have := Glt.out; omega)⟩))), HB2.out.alloc HB2.out.size _⟩
set_option maxHeartbeats 4000000 in
theorem formT_any (vs : List Value) (r : Rc.PRec) (w : World) (h : DatRd vs r w) (hf : DF r) (ht : r.type = 16) :
  Calls Tryz.prog 51 #[.agg vs.toArray] w (Gives (.bool (decide (Tw.form r))) w) := by
 obtain ⟨vn, vm, vt, vr, rfl, ⟨us, hus, ⟨p1, q1, rfl, _⟩, _⟩, ⟨p2, q2, rfl, _⟩, ⟨p3, q3, rfl, _⟩, ⟨p4, q4, rfl, _⟩⟩ := h
 obtain ⟨ln, hln⟩ : ∃ n, us.length = n := ⟨_, rfl⟩
 obtain ⟨lm, hlm⟩ : ∃ n, (numC r.nums).length = n := ⟨_, rfl⟩
 obtain ⟨lt, hlt⟩ : ∃ n, r.texts.length = n := ⟨_, rfl⟩
 obtain ⟨lr, hlr⟩ : ∃ n, (r.raw.map fun b : UInt8 => Value.int .u8 (b.toNat : Int)).length = n := ⟨_, rfl⟩
 rw [hln, hlm, hlt, hlr]
 have e1 : r.names.length = ln := by rw [<- hus]; exact hln
 have e2 : r.nums.length = lm := by rw [<- hlm]; simp [numC]
 have e4 : r.raw.length = lr := by rw [<- hlr]; simp
 have b1 : (ln : Int) <= 8 := by have := hf.names; omega
 have b2 : (lm : Int) <= 12 := by have := hf.nums; omega
 have b3 : (lt : Int) <= 40 := by have := hf.texts; omega
 have b4 : (lr : Int) <= 1100 := by have := hf.raw; omega
 have HL := Lib.hid (And.intro e1 (And.intro e2 (And.intro hlt e4)))
 obtain ⟨bb, hbb⟩ : ∃ b, decide (Tw.form r) = b := ⟨_, rfl⟩
 have HBB := Lib.hid hbb
 rw [hbb]
 clear hus hln hlm hlt hlr e1 e2 e4 hf hbb
 have HCNT : Hid (Tw.cnt r.type = (0, 0, 0)) := Lib.hid (by rw [ht]; rfl)
 have HTX : Hid (Tw.txs r ↔ 1 <= lt /\ lt <= 32) := by show _ ↔ _; unfold Tw.txs; rw [if_pos ht, HL.out.2.2.1]
 rw [ht]
 clear ht
 obtain ⟨m, hm⟩ : ∃ m : Nat, min (max lt 1) 32 = m := ⟨_, rfl⟩
 have HM := Lib.hid hm
 have hmz : min (max (lt : Int) 1) 32 = (m : Int) := by omega
 clear hm
 refine (callsIn_wide (n := 0)).1 ?_
 refine callsIn_of_wp Tryz.func51 rfl trivial ?_ rfl
 simp only [Tryz.ntmps51, List.size_toArray, List.length_cons, List.length_nil, Nat.reduceAdd, Nat.reduceSub, Array.replicate_succ, Array.replicate_zero, List.push_toArray, List.append_toArray, List.nil_append, List.cons_append]
 gi_wp2_with fail
 refine (callsIn_wide.2 (of2_any 16 0 0 (-1) 0 (by decide) _)).mono ?_
 rintro e w2 ⟨rfl, b2'⟩
 have hb2 : Below w.heap.size w w2 := ((Below.refl _ _).alloc (Nat.le_refl _) _).trans (b2'.mono (by simp))
 have k0 : Blk w.heap.size #[.int .i64 16, .slice p1 ln q1, .slice p2 lm q2, .slice p3 lt q3, .slice p4 lr q4] 29 w2 := (Blk.new w _ _).below b2'
 have hlt := k0.lt
 have HB2 := Lib.hid hb2
 have HLT := Lib.hid hlt
 have c1 : (w2.alloc (.cells #[.int .i64 0, .int .i64 0, .int .i64 (-1), .int .i64 0] 113)).cell? ⟨w.heap.size, 1, none⟩ = some (.slice p1 ln q1) := (k0.alloc _).cell 1
 have c2 : (w2.alloc (.cells #[.int .i64 0, .int .i64 0, .int .i64 (-1), .int .i64 0] 113)).cell? ⟨w.heap.size, 2, none⟩ = some (.slice p2 lm q2) := (k0.alloc _).cell 2
 have c3 : (w2.alloc (.cells #[.int .i64 0, .int .i64 0, .int .i64 (-1), .int .i64 0] 113)).cell? ⟨w.heap.size, 3, none⟩ = some (.slice p3 lt q3) := (k0.alloc _).cell 3
 have c4 : (w2.alloc (.cells #[.int .i64 0, .int .i64 0, .int .i64 (-1), .int .i64 0] 113)).cell? ⟨w.heap.size, 4, none⟩ = some (.slice p4 lr q4) := (k0.alloc _).cell 4
 have c1b : (w2.alloc (.cells #[.int .i64 0, .int .i64 0, .int .i64 (m : Int), .int .i64 0] 113)).cell? ⟨w.heap.size, 1, none⟩ = some (.slice p1 ln q1) := (k0.alloc _).cell 1
 have c2b : (w2.alloc (.cells #[.int .i64 0, .int .i64 0, .int .i64 (m : Int), .int .i64 0] 113)).cell? ⟨w.heap.size, 2, none⟩ = some (.slice p2 lm q2) := (k0.alloc _).cell 2
 have c3b : (w2.alloc (.cells #[.int .i64 0, .int .i64 0, .int .i64 (m : Int), .int .i64 0] 113)).cell? ⟨w.heap.size, 3, none⟩ = some (.slice p3 lt q3) := (k0.alloc _).cell 3
 have c4b : (w2.alloc (.cells #[.int .i64 0, .int .i64 0, .int .i64 (m : Int), .int .i64 0] 113)).cell? ⟨w.heap.size, 4, none⟩ = some (.slice p4 lr q4) := (k0.alloc _).cell 4
 clear b2' hb2 k0 hlt
 by_cases gln : (ln : Int) = 0
 case neg =>
  have gln1 : ((ln : Int) == 0) = false := by simpa using gln
  have gln2 : decide ((ln : Int) = 0) = false := by simpa using gln
  have G := Lib.hid gln
  clear gln
  gi_wp2_with fail
  go_ret
  exact ⟨retb_eq (HBB.out.symm.trans (decide_eq_false (fun hfm => by obtain ⟨x1, x2, x3, x4⟩ := Tw.form_cnt hfm HCNT.out; rw [HL.out.1] at x1; exact G.out x1))), HB2.out.alloc HB2.out.size _⟩
 have gln1 : ((ln : Int) == 0) = true := by simpa using gln
 have gln2 : decide ((ln : Int) = 0) = true := by simpa using gln
 have Gln := Lib.hid gln
 clear gln
 by_cases glm : (lm : Int) = 0
 case neg =>
  have glm1 : ((lm : Int) == 0) = false := by simpa using glm
  have glm2 : decide ((lm : Int) = 0) = false := by simpa using glm
  have G := Lib.hid glm
  clear glm
  gi_wp2_with fail
  go_ret
  exact ⟨retb_eq (HBB.out.symm.trans (decide_eq_false (fun hfm => by obtain ⟨x1, x2, x3, x4⟩ := Tw.form_cnt hfm HCNT.out; rw [HL.out.2.1] at x2; exact G.out x2))), HB2.out.alloc HB2.out.size _⟩
 have glm1 : ((lm : Int) == 0) = true := by simpa using glm
 have glm2 : decide ((lm : Int) = 0) = true := by simpa using glm
 have Glm := Lib.hid glm
 clear glm
 by_cases glt : (lt : Int) = (m : Int)
 case neg =>
  have glt1 : ((lt : Int) == (m : Int)) = false := by simpa using glt
  have glt2 : decide ((lt : Int) = (m : Int)) = false := by simpa using glt
  have G := Lib.hid glt
  clear glt
  gi_wp2_with fail
  go_ret
  exact ⟨retb_eq (HBB.out.symm.trans (decide_eq_false (fun hfm => by obtain ⟨x1, x2, x3, x4⟩ := Tw.form_cnt hfm HCNT.out; exact G.out (by have := HTX.out.1 x4; have := HM.out; omega)))), HB2.out.alloc HB2.out.size _⟩
 have glt1 : ((lt : Int) == (m : Int)) = true := by simpa using glt
 have glt2 : decide ((lt : Int) = (m : Int)) = true := by simpa using glt
 have Glt := Lib.hid glt
 clear glt
 by_cases glr : (lr : Int) = 0
 case neg =>
  have glr1 : ((lr : Int) == 0) = false := by simpa using glr
  have glr2 : decide ((lr : Int) = 0) = false := by simpa using glr
  have G := Lib.hid glr
  clear glr
  gi_wp2_with fail
  go_ret
  exact ⟨retb_eq (HBB.out.symm.trans (decide_eq_false (fun hfm => by obtain ⟨x1, x2, x3, x4⟩ := Tw.form_cnt hfm HCNT.out; rw [HL.out.2.2.2] at x3; exact G.out (x3 (by decide))))), HB2.out.alloc HB2.out.size _⟩
 have glr1 : ((lr : Int) == 0) = true := by simpa using glr
 have glr2 : decide ((lr : Int) = 0) = true := by simpa using glr
 have Glr := Lib.hid glr
 clear glr
 gi_wp2_with fail
 go_ret
 exact ⟨retb_eq (HBB.out.symm.trans (decide_eq_true (by unfold Tw.form; rw [HCNT.out, HL.out.1, HL.out.2.1, HL.out.2.2.2]; exact ⟨Gln.out, Glm.out, fun _ => Glr.out, HTX.out.2 (by have := Glt.out; have := HM.out; omega)⟩))), HB2.out.alloc HB2.out.size _⟩
theorem form2_any (vs : List Value) (r : Rc.PRec) (w : World) (h : DatRd vs r w) (hf : DF r) :
  Calls Tryz.prog 51 #[.agg vs.toArray] w (Gives (.bool (decide (Tw.form r))) w) := by
 by_cases h16 : r.type = 16
 ·exact formT_any vs r w h hf h16
 by_cases h1 : r.type = 1
 ·exact formF_any vs r w h hf 1 0 0 4 h1 (by decide) (by decide) (by decide) (by decide)
 by_cases h28 : r.type = 28
 ·exact formF_any vs r w h hf 28 0 0 16 h28 (by decide) (by decide) (by decide) (by decide)
 by_cases h15 : r.type = 15
 ·exact formF_any vs r w h hf 15 1 1 0 h15 (by decide) (by decide) (by decide) (by decide)
 by_cases h6 : r.type = 6
 ·exact formF_any vs r w h hf 6 2 5 0 h6 (by decide) (by decide) (by decide) (by decide)
 by_cases h2 : r.type = 2
 ·exact formF_any vs r w h hf 2 1 0 0 h2 (by decide) (by decide) (by decide) (by decide)
 by_cases h5 : r.type = 5
 ·exact formF_any vs r w h hf 5 1 0 0 h5 (by decide) (by decide) (by decide) (by decide)
 by_cases h12 : r.type = 12
 ·exact formF_any vs r w h hf 12 1 0 0 h12 (by decide) (by decide) (by decide) (by decide)
 by_cases h39 : r.type = 39
 ·exact formF_any vs r w h hf 39 1 0 0 h39 (by decide) (by decide) (by decide) (by decide)
 refine formU_any vs r w h hf _ rfl ?_ ?_ h16
 ·simp [Tw.shp, h1, h28, h15, h6, h16, h2, h5, h12, h39]
 ·simp [Tw.cnt, h1, h28, h15, h6, h16, h2, h5, h12, h39]
end Go.Proofs.YtgmbefolgppmdaaGreatDoor
end
section
namespace Go.Proofs.YtgmbefolgppmdaaGreatDoor
open Go.RowKit Go.Shelf Go.Sort
set_option maxRecDepth 100000
attribute [local go_sem] Oper.semAt_some
theorem long1_any (l : List UInt8) (w : World) : Calls Tryz.prog 53 #[S l] w (Gives (.bool (decide (255 < l.length))) w) := by
 obtain ⟨n, hn⟩ : ∃ n, l.length = n := ⟨_, rfl⟩
 rw [hn]
 by_cases h : 255 < n
 ·have h1 : (255 : Int) < (n : Int) := by omega
  have h2 : decide ((255 : Int) < (n : Int)) = true := by simpa using h1
  have h3 : decide (255 < n) = true := by simpa using h
  rw [h3]
  clear h3
  go_enter Tryz.func53, Tryz.ntmps53
  go_wp2
  go_ret
  exact ⟨rfl, Below.refl _ _⟩
 ·have h1 : ¬ (255 : Int) < (n : Int) := by omega
  have h2 : decide ((255 : Int) < (n : Int)) = false := by simpa using h1
  have h3 : decide (255 < n) = false := by simpa using h
  rw [h3]
  clear h3
  go_enter Tryz.func53, Tryz.ntmps53
  go_wp2
  go_ret
  exact ⟨rfl, Below.refl _ _⟩
def Tw.fst (p : List UInt8 -> Bool) : List (List UInt8) -> Nat -> Int
 | [], _ => -1
 | x :: l, k => if p x then (k : Int) else Tw.fst p l (k + 1)
theorem Tw.fst_any (p : List UInt8 -> Bool) : ∀ (l : List (List UInt8)) (k : Nat), decide (0 <= Tw.fst p l k) = l.any p
 | [], _ => by simp [Tw.fst]
 | x :: l, k => by
  rw [Tw.fst, List.any_cons]
  cases h : p x with
  | true => simp
  | false => simpa using Tw.fst_any p l (k + 1)
set_option maxHeartbeats 2000000 in
theorem indexLong_any (v : Value) (l : List (List UInt8)) (w : World) (hv : Rd v l w) (hl : l.length <= 1000) :
  Calls Tryz.prog 83 #[v, .func (.func 53) #[] #[]] w (Gives (.int .i64 (Tw.fst (fun x => decide (255 < x.length)) l 0)) w) := by
 obtain ⟨o, c, rfl, _, _⟩ := hv.form
 have HV := Lib.hid hv.cells
 have hlz : (l.length : Int) <= 1000 := by omega
 clear hv hl
 refine (callsIn_wide (n := 0)).1 ?_
 refine callsIn_of_wp Tryz.func83 rfl trivial ?_ rfl
 simp only [Tryz.ntmps83, List.size_toArray, List.length_cons, List.length_nil, Nat.reduceAdd, Nat.reduceSub, Array.replicate_succ, Array.replicate_zero, List.push_toArray, List.append_toArray, List.nil_append, List.cons_append]
 gi_wp2_with fail
 gi_loopw [8] (fun i wr => ∃ k : Nat, k <= l.length /\ Hid (Tw.fst (fun x => decide (255 < x.length)) l 0 = Tw.fst (fun x => decide (255 < x.length)) (l.drop k) k) /\ i = .int .i64 k /\ Below w.heap.size w wr) (fun i _ => l.length - (intOf i).toNat)
 case atStart => exact ⟨0, by omega, rfl, rfl, Below.refl _ _⟩
 case round =>
  obtain ⟨k, hk, HF, rfl, hb⟩ := hrel
  have HB := Lib.hid hb
  by_cases hlt : k < l.length
  ·have hltz : (k : Int) < (l.length : Int) := by omega
   obtain ⟨a, rfl, c1⟩ := HV.out _ hb k hlt
   obtain ⟨x, hx⟩ : ∃ x, l[k] = x := ⟨_, rfl⟩
   rw [hx] at c1
   have HZ : Hid (Tw.fst (fun x => decide (255 < x.length)) (l.drop k) k = if decide (255 < x.length) = true then (k : Int) else Tw.fst (fun x => decide (255 < x.length)) (l.drop (k + 1)) (k + 1)) := by
    show _ = _
    rw [List.drop_eq_getElem_cons hlt, hx]; rfl
   obtain ⟨bz, hz⟩ : ∃ bz, decide (255 < x.length) = bz := ⟨_, rfl⟩
   have HC : Hid (∀ W, Calls Tryz.prog 53 #[S x] W (Gives (.bool bz) W)) := fun W => by have := long1_any x W; rw [hz] at this; exact this
   rw [hz] at HZ
   clear hx hz hb
   cases bz with
   | true =>
    gi_wp2_with fail
    refine (callsIn_wide.2 (HC.out _)).mono ?_
    rintro e w3 ⟨rfl, b3⟩
    have HB3 := Lib.hid (below5 HB.out b3)
    clear b3
    gi_wp2_with fail
    go_ret
    exact ⟨by rw [HF.out, HZ.out]; rfl, HB3.out⟩
   | false =>
    gi_wp2_with fail
    refine (callsIn_wide.2 (HC.out _)).mono ?_
    rintro e w3 ⟨rfl, b3⟩
    have HB3 := Lib.hid (below5 HB.out b3)
    clear b3
    gi_wp2_with fail
    refine ⟨⟨k + 1, hlt, ?_, by go_num, HB3.out⟩, by simp [intOf]; omega⟩
    show _ = _
    rw [HF.out, HZ.out]; rfl
  ·have hltz : ¬ ((k : Int) < (l.length : Int)) := by omega
   have HE : Hid (Tw.fst (fun x => decide (255 < x.length)) l 0 = -1) := by show _ = _; rw [HF.out, List.drop_of_length_le (by omega)]; rfl
   clear hb
   gi_wp2_with fail
   go_ret
   exact ⟨by rw [HE.out]; rfl, HB.out⟩
theorem containsLong_any (v : Value) (l : List (List UInt8)) (w : World) (hv : Rd v l w) (hl : l.length <= 1000) :
  Calls Tryz.prog 52 #[v, .func (.func 53) #[] #[]] w (Gives (.bool (l.any fun x => decide (255 < x.length))) w) := by
 have HC := Lib.hid (indexLong_any v l w hv hl)
 have HF := Lib.hid (Tw.fst_any (fun x => decide (255 < x.length)) l 0)
 obtain ⟨o, c, rfl, _, _⟩ := hv.form
 obtain ⟨z, hz⟩ : ∃ z, Tw.fst (fun x => decide (255 < x.length)) l 0 = z := ⟨_, rfl⟩
 have HZ := Lib.hid hz
 rw [hz] at HC
 clear hz hv
 by_cases h0 : 0 <= z
 ·have h1 : decide (0 <= z) = true := by simpa using h0
  refine (callsIn_wide (n := 0)).1 ?_
  refine callsIn_of_wp Tryz.func52 rfl trivial ?_ rfl
  simp only [Tryz.ntmps52, List.size_toArray, List.length_cons, List.length_nil, Nat.reduceAdd, Nat.reduceSub, Array.replicate_succ, Array.replicate_zero, List.push_toArray, List.append_toArray, List.nil_append, List.cons_append]
  gi_wp2_with fail
  refine (callsIn_wide.2 HC.out).mono ?_
  rintro e w1 ⟨rfl, b1⟩
  gi_wp2_with fail
  go_ret
  exact ⟨by rw [<- HF.out, HZ.out, h1]; rfl, b1⟩
 ·have h1 : decide (0 <= z) = false := by simpa using h0
  refine (callsIn_wide (n := 0)).1 ?_
  refine callsIn_of_wp Tryz.func52 rfl trivial ?_ rfl
  simp only [Tryz.ntmps52, List.size_toArray, List.length_cons, List.length_nil, Nat.reduceAdd, Nat.reduceSub, Array.replicate_succ, Array.replicate_zero, List.push_toArray, List.append_toArray, List.nil_append, List.cons_append]
  gi_wp2_with fail
  refine (callsIn_wide.2 HC.out).mono ?_
  rintro e w1 ⟨rfl, b1⟩
  gi_wp2_with fail
  go_ret
  exact ⟨by rw [<- HF.out, HZ.out, h1]; rfl, b1⟩
set_option maxHeartbeats 8000000 in
theorem dataCheck2_any (vs : List Value) (r : Rc.PRec) (w : World) (h : DatRd vs r w) (hf : DF r) :
  Calls Tryz.prog 24 #[.agg vs.toArray] w (Gives (.int .i64 (Tw.chk r)) w) := by
 have HFO := Lib.hid (fun W (hb : Below w.heap.size w W) => form2_any vs r W (h.below hb) hf)
 obtain ⟨vn, vm, vt, vr, rfl, ⟨us, hus, h1, h1'⟩, h2, h3, h4⟩ := h
 obtain ⟨on, cn, rfl, c1, c1'⟩ := h1.form
 obtain ⟨om, cm, rfl, c2, c2'⟩ := h2.form
 obtain ⟨ot, ct, rfl, c3, c3'⟩ := h3.form
 obtain ⟨or, cr, rfl, c4, c4'⟩ := Sl.form h4
 have H1 := Lib.hid h1
 have H1' := Lib.hid h1'
 have H2 := Lib.hid h2
 have HN := Lib.hid (fun i (h : i < r.names.length) => NB.few (hf.name r.names[i] (List.getElem_mem h)))
 have HCF := Lib.hid (fun W (hb : Below w.heap.size w W) => containsLong_any _ r.texts W (h3.below hb) (by have := hf.texts; omega))
 have e2 : (numC r.nums).length = r.nums.length := by simp [numC]
 have e4 : (r.raw.map fun b : UInt8 => Value.int .u8 (b.toNat : Int)).length = r.raw.length := by simp
 rw [e2, e4, hus] at HFO
 rw [e2] at c2 ⊢
 rw [e4] at c4 ⊢
 rw [hus] at c1 ⊢
 unfold maxLen at c1' c2' c4'
 have b1 := hf.names
 have b2 := hf.nums
 have b3 := hf.texts
 have b4 := hf.raw
 obtain ⟨zz, hzz⟩ : ∃ z, Tw.chk r = z := ⟨_, rfl⟩
 rw [hzz]
 obtain ⟨t, ht⟩ : ∃ t, r.type = t := ⟨_, rfl⟩
 obtain ⟨ln, hln⟩ : ∃ ln, r.names.length = ln := ⟨_, rfl⟩
 obtain ⟨lm, hlm⟩ : ∃ lm, r.nums.length = lm := ⟨_, rfl⟩
 obtain ⟨lt, hlt⟩ : ∃ lt, r.texts.length = lt := ⟨_, rfl⟩
 obtain ⟨lr, hlr⟩ : ∃ lr, r.raw.length = lr := ⟨_, rfl⟩
 rw [ht, hln, hlm, hlt, hlr] at HFO ⊢
 rw [hln] at c1 b1
 rw [hlm] at c2 b2
 rw [hlt] at c3 b3 HCF
 rw [hlr] at c4 b4
 obtain ⟨bf, hbf⟩ : ∃ b, decide (Tw.form r) = b := ⟨_, rfl⟩
 rw [hbf] at HFO
 have HBF := Lib.hid hbf
 obtain ⟨bl, hbl⟩ : ∃ b, (r.texts.any fun x => decide (255 < x.length)) = b := ⟨_, rfl⟩
 rw [hbl] at HCF
 have HBLG := Lib.hid hbl
 have HUS := Lib.hid (hus.trans hln)
 have HL := Lib.hid (And.intro hln (And.intro hlm (And.intro hlt hlr)))
 have HZ := Lib.hid hzz
 have HTT := Lib.hid ht
 have i1 : (ln : Int) <= 8 := by omega
 have i2 : (lm : Int) <= 12 := by omega
 have i3 : (lt : Int) <= 40 := by omega
 have i4 : (lr : Int) <= 1100 := by omega
 have HKC : Hid (∀ W, Below (w.heap.size + 1) (w.alloc (.cells #[.int .i64 t, .slice on ln cn, .slice om lm cm, .slice ot lt ct, .slice or lr cr] 29)) W -> Blk w.heap.size #[.int .i64 t, .slice on ln cn, .slice om lm cm, .slice ot lt ct, .slice or lr cr] 29 W) := fun W hb => (hb.block w.heap.size (by omega)).trans (Blk.new w _ _)
 clear h1 h1' h2 h3 h4 hln hlm hlt hlr e2 e4 hus hf ht hzz hbf hbl
 by_cases g1 : t < 1
 ·have g1d : decide (t < 1) = true := by simpa using g1
  refine (callsIn_wide (n := 0)).1 ?_
  refine callsIn_of_wp Tryz.func24 rfl trivial ?_ rfl
  simp only [Tryz.ntmps24, List.size_toArray, List.length_cons, List.length_nil, Nat.reduceAdd, Nat.reduceSub, Array.replicate_succ, Array.replicate_zero, List.push_toArray, List.append_toArray, List.nil_append, List.cons_append]
  gi_wp2_with fail
  go_ret
  exact ⟨ret_eq (HZ.out.symm.trans (Tw.chk_type (.inl (by rw [HTT.out]; exact g1)))), (Below.refl _ _).alloc (Nat.le_refl _) _⟩
 have g1d : decide (t < 1) = false := by simpa using g1
 by_cases g2 : 65535 < t
 ·have g2d : decide (65535 < t) = true := by simpa using g2
  refine (callsIn_wide (n := 0)).1 ?_
  refine callsIn_of_wp Tryz.func24 rfl trivial ?_ rfl
  simp only [Tryz.ntmps24, List.size_toArray, List.length_cons, List.length_nil, Nat.reduceAdd, Nat.reduceSub, Array.replicate_succ, Array.replicate_zero, List.push_toArray, List.append_toArray, List.nil_append, List.cons_append]
  gi_wp2_with fail
  go_ret
  exact ⟨ret_eq (HZ.out.symm.trans (Tw.chk_type (.inr (by rw [HTT.out]; exact g2)))), (Below.refl _ _).alloc (Nat.le_refl _) _⟩
 have g2d : decide (65535 < t) = false := by simpa using g2
 have HG1 : Hid (1 <= r.type) := by show 1 <= r.type; rw [HTT.out]; omega
 have HG2 : Hid (r.type <= 65535) := by show r.type <= 65535; rw [HTT.out]; omega
 cases bf with
 | false =>
  have HNF : Hid (¬ Tw.form r) := Lib.hid (of_decide_eq_false HBF.out)
  refine (callsIn_wide (n := 0)).1 ?_
  refine callsIn_of_wp Tryz.func24 rfl trivial ?_ rfl
  simp only [Tryz.ntmps24, List.size_toArray, List.length_cons, List.length_nil, Nat.reduceAdd, Nat.reduceSub, Array.replicate_succ, Array.replicate_zero, List.push_toArray, List.append_toArray, List.nil_append, List.cons_append]
  gi_wp2_with fail
  refine (callsIn_wide.2 (HFO.out _ ((Below.refl _ _).alloc (Nat.le_refl _) _))).mono ?_
  rintro e w2 ⟨rfl, b2⟩
  have HB2 : Hid (Below w.heap.size w w2) := ((Below.refl _ _).alloc (Nat.le_refl _) _).trans (b2.mono (by simp))
  clear b2
  gi_wp2_with fail
  go_ret
  exact ⟨ret_eq (HZ.out.symm.trans (Tw.chk_form HG1.out HG2.out HNF.out)), HB2.out⟩
 | true =>
 have HFM : Hid (Tw.form r) := Lib.hid (of_decide_eq_true HBF.out)
 refine (callsIn_wide (n := 0)).1 ?_
 refine callsIn_of_wp Tryz.func24 rfl trivial ?_ rfl
 simp only [Tryz.ntmps24, List.size_toArray, List.length_cons, List.length_nil, Nat.reduceAdd, Nat.reduceSub, Array.replicate_succ, Array.replicate_zero, List.push_toArray, List.append_toArray, List.nil_append, List.cons_append]
 gi_wp2_with fail
 refine (callsIn_wide.2 (HFO.out _ ((Below.refl _ _).alloc (Nat.le_refl _) _))).mono ?_
 rintro e w2 ⟨rfl, b2'⟩
 have HB2 : Hid (Below w.heap.size w w2) := ((Below.refl _ _).alloc (Nat.le_refl _) _).trans (b2'.mono (by simp))
 have HBK : Hid (Blk w.heap.size #[.int .i64 t, .slice on ln cn, .slice om lm cm, .slice ot lt ct, .slice or lr cr] 29 w2) := HKC.out _ (b2'.mono (by simp))
 have d1 : w2.cell? ⟨w.heap.size, 1, none⟩ = some _ := HBK.out.cell 1
 clear b2' HKC HFO
 gi_wp2_with fail
 clear d1
 gi_loopw [22] (fun i wr => ∃ k : Nat, k <= ln /\ i = .int .i64 k /\ Below w2.heap.size w2 wr /\ Hid (Tw.bad (r.names.take k) = 0)) (fun i _ => ln - (intOf i).toNat)
 case atStart => exact ⟨0, Nat.zero_le _, rfl, Below.refl _ _, rfl⟩
 case round =>
  obtain ⟨k, hk, rfl, hb, HBD⟩ := hrel
  have q0 : wr.cell? ⟨w.heap.size, 0, none⟩ = some _ := (HBK.out.below hb).cell 0
  have q2 : wr.cell? ⟨w.heap.size, 2, none⟩ = some _ := (HBK.out.below hb).cell 2
  have q3 : wr.cell? ⟨w.heap.size, 3, none⟩ = some _ := (HBK.out.below hb).cell 3
  have q4 : wr.cell? ⟨w.heap.size, 4, none⟩ = some _ := (HBK.out.below hb).cell 4
  have HBB := Lib.hid (below5 HB2.out hb)
  by_cases hlt : k < ln
  ·have hlz : (k : Int) < (ln : Int) := by omega
   have hku : k < us.length := by rw [HUS.out]; exact hlt
   have hkn : k < r.names.length := by rw [HL.out.1]; exact hlt
   obtain ⟨a', rfl, y1⟩ := H1.out.cells _ HBB.out k hku
   obtain ⟨v, hv⟩ : ∃ v, us[k] = v := ⟨_, rfl⟩
   rw [hv] at y1
   have hrd : Rd v r.names[k] wr := by rw [<- hv]; exact (H1'.out k hku hkn).below HBB.out
   obtain ⟨o5, c5, rfl, _, _⟩ := hrd.form
   have HF := Lib.hid (nCheck_any _ _ _ hrd (HN.out k hkn))
   have HBT := Lib.hid (Tw.bad_take hkn HBD.out)
   have HBW := Lib.hid hb
   obtain ⟨z, hz⟩ : ∃ z, Nm.check r.names[k] = z := ⟨_, rfl⟩
   rw [hz] at HF HBT
   clear hrd hv hz hb q0 q2 q3 q4
   by_cases hz0 : z = 0
   ·subst hz0
    gi_wp2_with fail
    refine (callsIn_wide.2 HF.out).mono ?_
    rintro e w5 ⟨rfl, b5⟩
    have HB5 := Lib.hid (below5 HBW.out b5)
    clear b5
    gi_wp2_with fail
    exact ⟨⟨k + 1, hlt, by go_num, HB5.out, HBT⟩, by simp [intOf]; omega⟩
   ·have hz1 : (z != 0) = true := by simpa using hz0
    have hz2 : (z == 0) = false := by simpa using hz0
    have HZ0 := Lib.hid hz0
    gi_wp2_with fail
    refine (callsIn_wide.2 HF.out).mono ?_
    rintro e w5 ⟨rfl, b5⟩
    have HB5 := Lib.hid (below5 HBB.out b5)
    clear b5
    gi_wp2_with fail
    go_ret
    have hbz : Tw.bad r.names = z := by
     rw [Tw.bad_up (k := k + 1) (by rw [HBT.out]; exact HZ0.out), HBT.out]
    exact ⟨ret_eq (HZ.out.symm.trans ((Tw.chk_name HG1.out HG2.out HFM.out (by rw [hbz]; exact HZ0.out)).trans hbz)), HB5.out⟩
  ·have hlz : ¬ ((k : Int) < (ln : Int)) := by omega
   have HNA : Hid (Tw.bad r.names = 0) := by
    have := HBD.out
    rw [List.take_of_length_le (by rw [HL.out.1]; omega)] at this; exact this
   clear hb HBD
   obtain ⟨h15c, HOV⟩ | HOV : ((t == 15) = true /\ True) \/ ¬ t = 15 := by by_cases h : t = 15; exact .inl ⟨by simpa using h, trivial⟩; exact .inr h
   ·have ht15 : t = 15 := by simpa using h15c
    have h15d : decide (t = 15) = true := by simpa using ht15
    have HT15 := Lib.hid ht15
    have hlm1 : lm = 1 := by
     have e := (Tw.form_cnt HFM.out (show Tw.cnt r.type = (1, 1, 0) by rw [HTT.out, ht15]; rfl)).2.1
     rw [HL.out.2.1] at e; omega
    have hm2 : 0 < r.nums.length := by rw [HL.out.2.1]; omega
    have hm1 : 0 < (numC r.nums).length := by simpa [numC] using hm2
    have hmz : (0 : Int) < (lm : Int) := by omega
    obtain ⟨a2, rfl, y2⟩ := H2.out.cells _ HBB.out 0 hm1
    obtain ⟨u, hu⟩ : ∃ u : Nat, r.nums[0] = u := ⟨_, rfl⟩
    have hu2 : (numC r.nums)[0] = .int .u32 (u : Int) := by rw [<- hu]; simp [numC]
    have HU : Hid (r.nums.headD 0 = u) := by
     show r.nums.headD 0 = u
     rw [<- hu]; exact headD_get hm2
    rw [hu2] at y2
    have y2' : wr.cell? a2 = some (.int .u32 (u : Int)) := by rw [add_zero'] at y2; exact y2
    clear y2 hu2 hu hm2 ht15 hm1 hlm1
    by_cases gu : 65535 < u
    ·have gu1 : (65535 : Int) < (u : Int) := by omega
     have gu2 : decide ((65535 : Int) < (u : Int)) = true := by simp; omega
     have gu3 : decide (65535 < u) = true := by simp; omega
     have HGU := Lib.hid gu
     gi_wp2_with fail
     go_ret
     exact ⟨ret_eq (HZ.out.symm.trans (Tw.chk_over (by rw [HTT.out]; exact HT15.out) HFM.out HNA.out (by rw [HU.out]; exact HGU.out))), HBB.out⟩
    ·have gu1 : ¬ (65535 : Int) < (u : Int) := by omega
     have gu2 : decide ((65535 : Int) < (u : Int)) = false := by simp; omega
     have gu3 : decide (65535 < u) = false := by simp; omega
     have HGU : Hid (r.type = 15 -> r.nums.headD 0 <= 65535) := fun _ => by rw [HU.out]; omega
     have hx0 := HTT.out
     clear hx0
     by_cases gr : 1024 < lr
     ·have gr1 : (1024 : Int) < (lr : Int) := by omega
      have gr2 : decide ((1024 : Int) < (lr : Int)) = true := by simp; omega
      have gr3 : decide (1024 < lr) = true := by simp; omega
      have HGR := Lib.hid gr
      gi_wp2_with fail
      go_ret
      exact ⟨ret_eq (HZ.out.symm.trans (Tw.chk_long HG1.out HG2.out HFM.out HNA.out HGU.out (.inr (by rw [HL.out.2.2.2]; exact HGR.out)))), HBB.out⟩
     ·have gr1 : ¬ (1024 : Int) < (lr : Int) := by omega
      have gr2 : decide ((1024 : Int) < (lr : Int)) = false := by simp; omega
      have gr3 : decide (1024 < lr) = false := by simp; omega
      have HGR := Lib.hid gr
      cases bl with
      | true =>
       gi_wp2_with fail
       refine (callsIn_wide.2 (HCF.out _ HBB.out)).mono ?_
       rintro e w6 ⟨rfl, b6⟩
       have HB6 := Lib.hid (below5 HBB.out b6)
       clear b6
       gi_wp2_with fail
       go_ret
       exact ⟨ret_eq (HZ.out.symm.trans (Tw.chk_long HG1.out HG2.out HFM.out HNA.out HGU.out (.inl (by have := HBLG.out; simpa using this)))), HB6.out⟩
      | false =>
       gi_wp2_with fail
       refine (callsIn_wide.2 (HCF.out _ HBB.out)).mono ?_
       rintro e w6 ⟨rfl, b6⟩
       have HB6 := Lib.hid (below5 HBB.out b6)
       clear b6
       gi_wp2_with fail
       go_ret
       exact ⟨ret_eq (HZ.out.symm.trans (Tw.chk_ok HG1.out HG2.out HFM.out HNA.out HGU.out (fun h => h.elim (fun ⟨x, hx, hl⟩ => absurd (List.any_eq_true.2 ⟨x, hx, decide_eq_true hl⟩) (by rw [HBLG.out]; exact Bool.false_ne_true)) (fun h => HGR.out (by rw [HL.out.2.2.2] at h; exact h))))), HB6.out⟩
   ·have h15b : (t == 15) = false := by simpa using HOV
    have h15d : decide (t = 15) = false := by simpa using HOV
    have HGU : Hid (r.type = 15 -> r.nums.headD 0 <= 65535) := fun h => absurd (HTT.out.symm.trans h) HOV
    clear HOV
    by_cases gr : 1024 < lr
    ·have gr1 : (1024 : Int) < (lr : Int) := by omega
     have gr2 : decide ((1024 : Int) < (lr : Int)) = true := by simp; omega
     have gr3 : decide (1024 < lr) = true := by simp; omega
     have HGR := Lib.hid gr
     gi_wp2_with fail
     go_ret
     exact ⟨ret_eq (HZ.out.symm.trans (Tw.chk_long HG1.out HG2.out HFM.out HNA.out HGU.out (.inr (by rw [HL.out.2.2.2]; exact HGR.out)))), HBB.out⟩
    ·have gr1 : ¬ (1024 : Int) < (lr : Int) := by omega
     have gr2 : decide ((1024 : Int) < (lr : Int)) = false := by simp; omega
     have gr3 : decide (1024 < lr) = false := by simp; omega
     have HGR := Lib.hid gr
     cases bl with
     | true =>
      gi_wp2_with fail
      refine (callsIn_wide.2 (HCF.out _ HBB.out)).mono ?_
      rintro e w6 ⟨rfl, b6⟩
      have HB6 := Lib.hid (below5 HBB.out b6)
      clear b6
      gi_wp2_with fail
      go_ret
      exact ⟨ret_eq (HZ.out.symm.trans (Tw.chk_long HG1.out HG2.out HFM.out HNA.out HGU.out (.inl (by have := HBLG.out; simpa using this)))), HB6.out⟩
     | false =>
      gi_wp2_with fail
      refine (callsIn_wide.2 (HCF.out _ HBB.out)).mono ?_
      rintro e w6 ⟨rfl, b6⟩
      have HB6 := Lib.hid (below5 HBB.out b6)
      clear b6
      gi_wp2_with fail
      go_ret
      exact ⟨ret_eq (HZ.out.symm.trans (Tw.chk_ok HG1.out HG2.out HFM.out HNA.out HGU.out (fun h => h.elim (fun ⟨x, hx, hl⟩ => absurd (List.any_eq_true.2 ⟨x, hx, decide_eq_true hl⟩) (by rw [HBLG.out]; exact Bool.false_ne_true)) (fun h => HGR.out (by rw [HL.out.2.2.2] at h; exact h))))), HB6.out⟩
theorem recCheck2_any (vs : List Value) (r : Rc.PRec) (w : World) (h : RecRd vs r w) (no : NB r.owner) (hf : DF r) :
  Calls Tryz.prog 9 #[.agg vs.toArray] w (Gives (.int .i64 (Tw.chkR r)) w) := by
 obtain ⟨p0, n0, q0, p1, n1, q1, p2, n2, q2, p3, n3, q3, p4, n4, q4, rfl, hro, hrd⟩ := h.cells
 obtain ⟨tt, htt⟩ : ∃ tt, r.ttl = tt := ⟨_, rfl⟩
 rw [htt]
 have HN := Lib.hid (fun W (hb : Below w.heap.size w W) => nCheck_any _ r.owner W (hro.below hb) no)
 have HD := Lib.hid (fun W (hb : Below w.heap.size w W) => dataCheck2_any _ r W (hrd.below hb) hf)
 obtain ⟨z, hz⟩ : ∃ z, Nm.check r.owner = z := ⟨_, rfl⟩
 rw [hz] at HN
 obtain ⟨y, hy⟩ : ∃ y, Tw.chkR r = y := ⟨_, rfl⟩
 rw [hy]
 have HY := Lib.hid hy
 have HZ := Lib.hid hz
 have HTL := Lib.hid htt
 obtain ⟨t, ht⟩ : ∃ t, r.type = t := ⟨_, rfl⟩
 rw [ht] at HD ⊢
 have HKC : Hid (∀ W, Below (w.heap.size + 1) (w.alloc (.cells #[.slice p0 n0 q0, .int .u32 (tt : Int), .int .i64 t, .slice p1 n1 q1, .slice p2 n2 q2, .slice p3 n3 q3, .slice p4 n4 q4] 31)) W -> Blk w.heap.size #[.slice p0 n0 q0, .int .u32 (tt : Int), .int .i64 t, .slice p1 n1 q1, .slice p2 n2 q2, .slice p3 n3 q3, .slice p4 n4 q4] 31 W) := fun W hb => (hb.block w.heap.size (by omega)).trans (Blk.new w _ _)
 clear hro hrd h hz hf no hy htt ht
 by_cases hz0 : z = 0
 ·subst hz0
  by_cases ht : 2147483647 < tt
  ·have ht1 : (2147483647 : Int) < (tt : Int) := by omega
   have ht2 : decide ((2147483647 : Int) < (tt : Int)) = true := by simp; omega
   have ht3 : decide (2147483647 < tt) = true := by simp; omega
   refine (callsIn_wide (n := 0)).1 ?_
   refine callsIn_of_wp Tryz.func9 rfl trivial ?_ rfl
   simp only [Tryz.ntmps9, List.size_toArray, List.length_cons, List.length_nil, Nat.reduceAdd, Nat.reduceSub, Array.replicate_succ, Array.replicate_zero, List.push_toArray, List.append_toArray, List.nil_append, List.cons_append]
   gi_wp2_with fail
   refine (callsIn_wide.2 (HN.out _ ((Below.refl _ _).alloc (Nat.le_refl _) _))).mono ?_
   rintro e w2 ⟨rfl, b2⟩
   have e1 : w2.cell? ⟨w.heap.size, 1, none⟩ = some _ := (HKC.out _ (b2.mono (by simp))).cell 1
   have HB2 : Hid (Below w.heap.size w w2) := ((Below.refl _ _).alloc (Nat.le_refl _) _).trans (b2.mono (by simp))
   clear b2
   gi_wp2_with fail
   go_ret
   exact ⟨ret_eq (by rw [<- HY.out]; unfold Tw.chkR; rw [if_neg (fun h => h HZ.out), if_pos (by rw [HTL.out]; exact ht)]), HB2.out⟩
  ·have ht1 : ¬ (2147483647 : Int) < (tt : Int) := by omega
   have ht2 : decide ((2147483647 : Int) < (tt : Int)) = false := by simp; omega
   have ht3 : decide (2147483647 < tt) = false := by simp; omega
   refine (callsIn_wide (n := 0)).1 ?_
   refine callsIn_of_wp Tryz.func9 rfl trivial ?_ rfl
   simp only [Tryz.ntmps9, List.size_toArray, List.length_cons, List.length_nil, Nat.reduceAdd, Nat.reduceSub, Array.replicate_succ, Array.replicate_zero, List.push_toArray, List.append_toArray, List.nil_append, List.cons_append]
   gi_wp2_with fail
   refine (callsIn_wide.2 (HN.out _ ((Below.refl _ _).alloc (Nat.le_refl _) _))).mono ?_
   rintro e w2 ⟨rfl, b2⟩
   have hk := HKC.out _ (b2.mono (by simp))
   have e1 : w2.cell? ⟨w.heap.size, 1, none⟩ = some _ := hk.cell 1
   have e2 : w2.cell? ⟨w.heap.size, 2, none⟩ = some _ := hk.cell 2
   have e3 : w2.cell? ⟨w.heap.size, 3, none⟩ = some _ := hk.cell 3
   have e4 : w2.cell? ⟨w.heap.size, 4, none⟩ = some _ := hk.cell 4
   have e5 : w2.cell? ⟨w.heap.size, 5, none⟩ = some _ := hk.cell 5
   have e6 : w2.cell? ⟨w.heap.size, 6, none⟩ = some _ := hk.cell 6
   have HB2 : Hid (Below w.heap.size w w2) := ((Below.refl _ _).alloc (Nat.le_refl _) _).trans (b2.mono (by simp))
   clear b2 hk
   gi_wp2_with fail
   refine (callsIn_wide.2 (HD.out _ HB2.out)).mono ?_
   rintro e w3 ⟨rfl, b3⟩
   have HB3 := Lib.hid (below5 HB2.out b3)
   clear b3
   gi_wp2_with fail
   go_ret
   exact ⟨ret_eq (by rw [<- HY.out]; unfold Tw.chkR; rw [if_neg (fun h => h HZ.out), if_neg (by rw [HTL.out]; exact ht)]), HB3.out⟩
 ·have hz1 : (z != 0) = true := by simpa using hz0
  have hz2 : (z == 0) = false := by simpa using hz0
  have HZ0 := Lib.hid hz0
  refine (callsIn_wide (n := 0)).1 ?_
  refine callsIn_of_wp Tryz.func9 rfl trivial ?_ rfl
  simp only [Tryz.ntmps9, List.size_toArray, List.length_cons, List.length_nil, Nat.reduceAdd, Nat.reduceSub, Array.replicate_succ, Array.replicate_zero, List.push_toArray, List.append_toArray, List.nil_append, List.cons_append]
  gi_wp2_with fail
  refine (callsIn_wide.2 (HN.out _ ((Below.refl _ _).alloc (Nat.le_refl _) _))).mono ?_
  rintro e w2 ⟨rfl, b2⟩
  have HB2 : Hid (Below w.heap.size w w2) := ((Below.refl _ _).alloc (Nat.le_refl _) _).trans (b2.mono (by simp))
  clear b2
  gi_wp2_with fail
  go_ret
  exact ⟨ret_eq (by rw [<- HY.out]; unfold Tw.chkR; rw [if_pos (by rw [HZ.out]; exact HZ0.out), HZ.out]), HB2.out⟩
end Go.Proofs.YtgmbefolgppmdaaGreatDoor
end
