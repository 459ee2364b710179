/- What may be of a record; its text: plain functions. -/
import Derived.Test.YtgmbefolgppmdaaGreatDoorKTwG
import Derived.Test.YtgmbefolgppmdaaGreatDoorKGdB
section
namespace Go.Proofs.YtgmbefolgppmdaaGreatDoor
open Go.RowKit Go.Shelf
set_option maxRecDepth 100000
namespace Tw
def cnt (t : Int) : Int × Int × Int :=
 if t = 1 then (0, 0, 4) else if t = 28 then (0, 0, 16) else if t = 2 \/ t = 5 \/ t = 12 \/ t = 39 then (1, 0, 0) else if t = 15 then (1, 1, 0) else if t = 6 then (2, 5, 0) else if t = 16 then (0, 0, 0) else (0, 0, -1)
def txs (r : Rc.PRec) : Prop := if r.type = 16 then 1 <= r.texts.length /\ r.texts.length <= 32 else r.texts.length = 0
def form (r : Rc.PRec) : Prop := (r.names.length : Int) = (cnt r.type).1 /\ (r.nums.length : Int) = (cnt r.type).2.1 /\ (0 <= (cnt r.type).2.2 -> (r.raw.length : Int) = (cnt r.type).2.2) /\ txs r
instance (r : Rc.PRec) : Decidable (txs r) := by unfold txs; infer_instance
instance (r : Rc.PRec) : Decidable (form r) := by unfold form; infer_instance
def bad : List (List (List UInt8)) -> Int
 | [] => 0
 | n :: l => if Nm.check n = 0 then bad l else Nm.check n
def chk (r : Rc.PRec) : Int :=
 if r.type < 1 \/ 65535 < r.type then 6 else if ¬ form r then 2 else if bad r.names ≠ 0 then bad r.names else if r.type = 15 /\ 65535 < r.nums.headD 0 then 7
 else if (∃ t ∈ r.texts, 255 < t.length) \/ 1024 < r.raw.length then 3 else 0
def chkR (r : Rc.PRec) : Int := if Nm.check r.owner ≠ 0 then Nm.check r.owner else if 2147483647 < r.ttl then 7 else chk r
theorem chk_type {r : Rc.PRec} (h : r.type < 1 \/ 65535 < r.type) : chk r = 6 := by unfold chk; rw [if_pos h]
theorem chk_form {r : Rc.PRec} (h : 1 <= r.type) (h' : r.type <= 65535) (k : ¬ form r) : chk r = 2 := by unfold chk; rw [if_neg (by omega), if_pos k]
theorem chk_name {r : Rc.PRec} (h : 1 <= r.type) (h' : r.type <= 65535) (k : form r) (b : bad r.names ≠ 0) : chk r = bad r.names := by unfold chk; rw [if_neg (by omega), if_neg (fun h => h k), if_pos b]
theorem chk_over {r : Rc.PRec} (h' : r.type = 15) (k : form r) (b : bad r.names = 0) (o : 65535 < r.nums.headD 0) : chk r = 7 := by unfold chk; rw [if_neg (by omega), if_neg (fun h => h k), if_neg (fun h => h b), if_pos ⟨h', o⟩]
theorem chk_long {r : Rc.PRec} (h : 1 <= r.type) (h' : r.type <= 65535) (k : form r) (b : bad r.names = 0) (o : r.type = 15 -> r.nums.headD 0 <= 65535) (g : (∃ t ∈ r.texts, 255 < t.length) \/ 1024 < r.raw.length) : chk r = 3 := by
 unfold chk; rw [if_neg (by omega), if_neg (fun h => h k), if_neg (fun h => h b), if_neg (fun h => by have := o h.1; omega), if_pos g]
theorem chk_ok {r : Rc.PRec} (h : 1 <= r.type) (h' : r.type <= 65535) (k : form r) (b : bad r.names = 0) (o : r.type = 15 -> r.nums.headD 0 <= 65535) (g : ¬ ((∃ t ∈ r.texts, 255 < t.length) \/ 1024 < r.raw.length)) : chk r = 0 := by
 unfold chk; rw [if_neg (by omega), if_neg (fun h => h k), if_neg (fun h => h b), if_neg (fun h => by have := o h.1; omega), if_neg g]
theorem bad_take {l : List (List (List UInt8))} {k : Nat} (h : k < l.length) (hb : bad (l.take k) = 0) : bad (l.take (k + 1)) = Nm.check l[k] := by
 induction l generalizing k with
 | nil => simp at h
 | cons x l ih =>
  cases k with
  | zero => simp only [List.take_succ_cons, List.take_zero, bad, List.getElem_cons_zero]; split <;> simp_all
  | succ k =>
   simp only [List.take_succ_cons, bad] at hb ⊢
   split at hb
   ·rename_i hx; rw [if_pos hx]; exact ih (by simpa using h) hb
   ·exact absurd hb (by assumption)
theorem bad_up {l : List (List (List UInt8))} {k : Nat} (hb : bad (l.take k) ≠ 0) : bad l = bad (l.take k) := by
 induction l generalizing k with
 | nil => simp [bad]
 | cons x l ih =>
  cases k with
  | zero => simp [bad] at hb
  | succ k =>
   simp only [List.take_succ_cons, bad] at hb ⊢
   split
   ·rename_i hx; rw [if_pos hx] at hb; exact ih hb
   ·rfl
theorem chk_zero {r : Rc.PRec} (h : chk r = 0) : 1 <= r.type /\ r.type <= 65535 /\ form r := by
 unfold chk at h
 split at h
 ·omega
 ·split at h
  ·omega
  ·rename_i h1 h2
   exact ⟨by omega, by omega, Decidable.not_not.1 h2⟩
theorem chkR_zero {r : Rc.PRec} (h : chkR r = 0) : chk r = 0 := by
 unfold chkR at h
 split at h
 ·contradiction
 ·split at h
  ·omega
  ·exact h
def dtext (r : Rc.PRec) : List UInt8 := Lib.join (words r) [32]
def rtext (r : Rc.PRec) : List UInt8 := Lib.join [Nm.text r.owner, Lib.decDigits r.ttl, [73, 78], Ty.text r.type.toNat, dtext r] [32]
theorem join_two (x y sep : List UInt8) : Lib.join [x, y] sep = x ++ sep ++ y := by simp [Lib.join]
theorem form_cnt {r : Rc.PRec} (h : form r) {a b c : Int} (e : cnt r.type = (a, b, c)) : (r.names.length : Int) = a /\ (r.nums.length : Int) = b /\ (0 <= c -> (r.raw.length : Int) = c) /\ txs r := by
 unfold form at h; rw [e] at h; exact h
end Tw
end Go.Proofs.YtgmbefolgppmdaaGreatDoor
end
section
namespace Go.Proofs.YtgmbefolgppmdaaGreatDoor
open Go.RowKit Go.Shelf Go.Sort
set_option maxRecDepth 100000
theorem headD_get : ∀ {l : List Nat} (h : 0 < l.length), l.headD 0 = l[0]
 | _ :: _, _ => rfl
theorem ret_eq {z y : Int} (h : y = z) : Ending.returned (.int .i64 z) = Ending.returned (.int .i64 y) := by rw [h]
set_option maxHeartbeats 1000000 in
theorem counts2_any (t a b c : Int) (h : Tw.cnt t = (a, b, c)) (w : World) : Calls Tryz.prog 44 #[.int .i64 t] w fun e w' => e = .returned (.tuple #[.int .i64 a, .int .i64 b, .int .i64 c]) /\ w = w' := by
 by_cases h1 : t = 1
 ·subst h1
  obtain ⟨rfl, rfl, rfl⟩ : a = 0 /\ b = 0 /\ c = 4 := by simpa [Tw.cnt, eq_comm] using h
  clear h
  go_enter Tryz.func44, Tryz.ntmps44
  go_wp2
  refine bodyPost_ret (results_tmp3 rfl _ _ _) rfl ?_
  exact ⟨rfl, rfl⟩
 have n1 : (t == 1) = false := by simpa using h1
 by_cases h28 : t = 28
 ·subst h28
  obtain ⟨rfl, rfl, rfl⟩ : a = 0 /\ b = 0 /\ c = 16 := by simpa [Tw.cnt, eq_comm] using h
  clear h
  go_enter Tryz.func44, Tryz.ntmps44
  go_wp2
  refine bodyPost_ret (results_tmp3 rfl _ _ _) rfl ?_
  exact ⟨rfl, rfl⟩
 have n28 : (t == 28) = false := by simpa using h28
 by_cases h2 : t = 2
 ·subst h2
  obtain ⟨rfl, rfl, rfl⟩ : a = 1 /\ b = 0 /\ c = 0 := by simpa [Tw.cnt, eq_comm] using h
  clear h
  go_enter Tryz.func44, Tryz.ntmps44
  go_wp2
  refine bodyPost_ret (results_tmp3 rfl _ _ _) rfl ?_
  exact ⟨rfl, rfl⟩
 have n2 : (t == 2) = false := by simpa using h2
 by_cases h5 : t = 5
 ·subst h5
  obtain ⟨rfl, rfl, rfl⟩ : a = 1 /\ b = 0 /\ c = 0 := by simpa [Tw.cnt, eq_comm] using h
  clear h
  go_enter Tryz.func44, Tryz.ntmps44
  go_wp2
  refine bodyPost_ret (results_tmp3 rfl _ _ _) rfl ?_
  exact ⟨rfl, rfl⟩
 have n5 : (t == 5) = false := by simpa using h5
 by_cases h12 : t = 12
 ·subst h12
  obtain ⟨rfl, rfl, rfl⟩ : a = 1 /\ b = 0 /\ c = 0 := by simpa [Tw.cnt, eq_comm] using h
  clear h
  go_enter Tryz.func44, Tryz.ntmps44
  go_wp2
  refine bodyPost_ret (results_tmp3 rfl _ _ _) rfl ?_
  exact ⟨rfl, rfl⟩
 have n12 : (t == 12) = false := by simpa using h12
 by_cases h39 : t = 39
 ·subst h39
  obtain ⟨rfl, rfl, rfl⟩ : a = 1 /\ b = 0 /\ c = 0 := by simpa [Tw.cnt, eq_comm] using h
  clear h
  go_enter Tryz.func44, Tryz.ntmps44
  go_wp2
  refine bodyPost_ret (results_tmp3 rfl _ _ _) rfl ?_
  exact ⟨rfl, rfl⟩
 have n39 : (t == 39) = false := by simpa using h39
 by_cases h15 : t = 15
 ·subst h15
  obtain ⟨rfl, rfl, rfl⟩ : a = 1 /\ b = 1 /\ c = 0 := by simpa [Tw.cnt, eq_comm] using h
  clear h
  go_enter Tryz.func44, Tryz.ntmps44
  go_wp2
  refine bodyPost_ret (results_tmp3 rfl _ _ _) rfl ?_
  exact ⟨rfl, rfl⟩
 have n15 : (t == 15) = false := by simpa using h15
 by_cases h6 : t = 6
 ·subst h6
  obtain ⟨rfl, rfl, rfl⟩ : a = 2 /\ b = 5 /\ c = 0 := by simpa [Tw.cnt, eq_comm] using h
  clear h
  go_enter Tryz.func44, Tryz.ntmps44
  go_wp2
  refine bodyPost_ret (results_tmp3 rfl _ _ _) rfl ?_
  exact ⟨rfl, rfl⟩
 have n6 : (t == 6) = false := by simpa using h6
 by_cases h16 : t = 16
 ·subst h16
  obtain ⟨rfl, rfl, rfl⟩ : a = 0 /\ b = 0 /\ c = 0 := by simpa [Tw.cnt, eq_comm] using h
  clear h
  go_enter Tryz.func44, Tryz.ntmps44
  go_wp2
  refine bodyPost_ret (results_tmp3 rfl _ _ _) rfl ?_
  exact ⟨rfl, rfl⟩
 have n16 : (t == 16) = false := by simpa using h16
 obtain ⟨rfl, rfl, rfl⟩ : a = 0 /\ b = 0 /\ c = -1 := by simpa [Tw.cnt, eq_comm, h1, h28, h2, h5, h12, h39, h15, h6, h16] using h
 clear h
 go_enter Tryz.func44, Tryz.ntmps44
 go_wp2
 refine bodyPost_ret (results_tmp3 rfl _ _ _) rfl ?_
 exact ⟨rfl, rfl⟩
set_option maxHeartbeats 4000000 in
theorem checkData2_any (vs : List Value) (r : Rc.PRec) (w0 : World) (h : DatRd vs r w0) (hf : DF r) :
  Calls Tryz.prog 19 #[.agg vs.toArray] w0 (Gives (.int .i64 (Tw.chk r)) w0) := by
 obtain ⟨vn, vm, vt, vr, rfl, ⟨us, hus, h1, h1'⟩, h2, h3, h4⟩ := h
 obtain ⟨on, cn, rfl, c1, c1'⟩ := h1.form
 obtain ⟨om, cm, rfl, c2, c2'⟩ := h2.form
 obtain ⟨ot, ct, rfl, c3, c3'⟩ := h3.form
 obtain ⟨or, cr, rfl, c4, c4'⟩ := Sl.form h4
 have H1 := Lib.hid h1
 have H1' := Lib.hid h1'
 have H2 := Lib.hid h2
 have H3 := Lib.hid h3.cells
 have HN := Lib.hid (fun i (h : i < r.names.length) => NB.few (hf.name r.names[i] (List.getElem_mem h)))
 have e2 : (numC r.nums).length = r.nums.length := by simp [numC]
 have e4 : (r.raw.map fun b : UInt8 => Value.int .u8 (b.toNat : Int)).length = r.raw.length := by simp
 rw [e2] at c2 ⊢
 rw [e4] at c4 ⊢
 rw [hus] at c1 ⊢
 unfold maxLen at c1' c2' c4'
 have b1 := hf.names
 have b2 := hf.nums
 have b3 := hf.texts
 have b4 := hf.raw
 obtain ⟨zz, hzz⟩ : ∃ z, Tw.chk r = z := ⟨_, rfl⟩
 rw [hzz]
 obtain ⟨t, ht⟩ : ∃ t, r.type = t := ⟨_, rfl⟩
 rw [ht]
 obtain ⟨ln, hln⟩ : ∃ ln, r.names.length = ln := ⟨_, rfl⟩
 obtain ⟨lm, hlm⟩ : ∃ lm, r.nums.length = lm := ⟨_, rfl⟩
 obtain ⟨lt, hlt⟩ : ∃ lt, r.texts.length = lt := ⟨_, rfl⟩
 obtain ⟨lr, hlr⟩ : ∃ lr, r.raw.length = lr := ⟨_, rfl⟩
 rw [hln] at c1 b1 ⊢
 rw [hlm] at c2 b2 ⊢
 rw [hlt] at c3 b3 ⊢
 rw [hlr] at c4 b4 ⊢
 have HUS := Lib.hid (hus.trans hln)
 have HL := Lib.hid (And.intro hln (And.intro hlm (And.intro hlt hlr)))
 have HZ := Lib.hid hzz
 have HTT := Lib.hid ht
 obtain ⟨a, b, c, hcnt⟩ : ∃ a b c, Tw.cnt t = (a, b, c) := ⟨_, _, _, rfl⟩
 obtain ⟨W1, hW1⟩ : ∃ W1, w0.alloc (.cells #[.int .i64 t, .slice on ln cn, .slice om lm cm, .slice ot lt ct, .slice or lr cr] 38) = W1 := ⟨_, rfl⟩
 have hb1 : Below w0.heap.size w0 W1 := by subst hW1; exact (Below.refl _ _).alloc (Nat.le_refl _) _
 have hblk : Blk w0.heap.size #[.int .i64 t, .slice on ln cn, .slice om lm cm, .slice ot lt ct, .slice or lr cr] 38 W1 := by subst hW1; exact Blk.new w0 _ _
 have d0 : W1.cell? ⟨w0.heap.size, 0, none⟩ = some _ := hblk.cell 0
 have d1 : W1.cell? ⟨w0.heap.size, 1, none⟩ = some _ := hblk.cell 1
 have d2 : W1.cell? ⟨w0.heap.size, 2, none⟩ = some _ := hblk.cell 2
 have d3 : W1.cell? ⟨w0.heap.size, 3, none⟩ = some _ := hblk.cell 3
 have d4 : W1.cell? ⟨w0.heap.size, 4, none⟩ = some _ := hblk.cell 4
 have HB := Lib.hid hb1
 have HBL := Lib.hid hblk
 have HC := Lib.hid (counts2_any t a b c hcnt W1)
 have HCNT : Hid (Tw.cnt r.type = (a, b, c)) := Lib.hid (by rw [ht]; exact hcnt)
 have i1 : (ln : Int) <= 8 := by omega
 have i2 : (lm : Int) <= 12 := by omega
 have i3 : (lt : Int) <= 40 := by omega
 have i4 : (lr : Int) <= 1100 := by omega
 clear h1 h1' h2 h3 h4 hb1 hblk hln hlm hlt hlr e2 e4 hus hf ht hzz hcnt
 by_cases g1 : t < 1
 ·have g1d : decide (t < 1) = true := by simpa using g1
  go_enter Tryz.func19, Tryz.ntmps19
  go_wp2_with fail
  go_ret
  exact ⟨ret_eq (HZ.out.symm.trans (Tw.chk_type (.inl (by rw [HTT.out]; exact g1)))), HB.out⟩
 have g1d : decide (t < 1) = false := by simpa using g1
 by_cases g2 : 65535 < t
 ·have g2d : decide (65535 < t) = true := by simpa using g2
  go_enter Tryz.func19, Tryz.ntmps19
  go_wp2_with fail
  go_ret
  exact ⟨ret_eq (HZ.out.symm.trans (Tw.chk_type (.inr (by rw [HTT.out]; exact g2)))), HB.out⟩
 have g2d : decide (65535 < t) = false := by simpa using g2
 have HG1 : Hid (1 <= r.type) := by show 1 <= r.type; rw [HTT.out]; omega
 have HG2 : Hid (r.type <= 65535) := by show r.type <= 65535; rw [HTT.out]; omega
 by_cases h16 : t = 16
 ·have h16b : (t == 16) = true := by simpa using h16
  have h16d : decide (t = 16) = true := by simpa using h16
  have H16 : Hid (r.type = 16) := Lib.hid (HTT.out.trans h16)
  clear h16
  by_cases hl1 : 1 <= lt
  ·have hl2 : (1 : Int) <= (lt : Int) := by omega
   have hl3 : decide ((1 : Int) <= (lt : Int)) = true := by simp; omega
   have hl4 : decide (1 <= lt) = true := by simp; omega
   obtain ⟨tx, htx⟩ : ∃ tx, decide ((lt : Int) <= 32) = tx := ⟨_, rfl⟩
   have htx2 : decide (lt <= 32) = tx := by rw [<- htx]; simp; omega
   have HTI : Hid (tx = true ↔ Tw.txs r) := by
    show _ ↔ _
    unfold Tw.txs; rw [if_pos H16.out, HL.out.2.2.1, <- htx2]
    simp; omega
   go_enter Tryz.func19, Tryz.ntmps19
   go_wp2_with fail
   refine HC.out.mono ?_
   rintro e w1 ⟨rfl, rfl⟩
   by_cases ha : (ln : Int) = a
   ·have ha1 : ((ln : Int) != a) = false := by simp [ha]
    have ha2 : decide ((ln : Int) = a) = true := by simp [ha]
    have HA := Lib.hid ha
    clear ha
    by_cases hb : (lm : Int) = b
    ·have hb1 : ((lm : Int) != b) = false := by simp [hb]
     have hb2 : decide ((lm : Int) = b) = true := by simp [hb]
     have HE := Lib.hid hb
     clear hb
     by_cases hc : 0 <= c
     ·have hc1 : decide (0 <= c) = true := by simpa using hc
      have HCC := Lib.hid hc
      by_cases hr : (lr : Int) = c
      ·have hr1 : ((lr : Int) != c) = false := by simp [hr]
       have hr2 : decide ((lr : Int) = c) = true := by simp [hr]
       have HR := Lib.hid hr
       clear hr
       cases tx with
       | false =>
        have HTXS : Hid (¬ Tw.txs r) := fun h => by have := HTI.out.2 h; cases this
        go_wp2_with fail
        go_ret
        exact ⟨ret_eq (HZ.out.symm.trans (Tw.chk_form HG1.out HG2.out (fun hfm => by obtain ⟨x1, x2, x3, x4⟩ := Tw.form_cnt hfm HCNT.out; exact HTXS.out x4))), HB.out⟩
       | true =>
        have HTXS : Hid (Tw.txs r) := HTI.out.1 rfl
        have HRR : Hid (0 <= c -> (lr : Int) = c) := fun _ => HR.out
        have HFM : Hid (Tw.form r) := by
         have e := HCNT.out
         show Tw.form r
         unfold Tw.form
         rw [e, HL.out.1, HL.out.2.1, HL.out.2.2.2]
         exact ⟨HA.out, HE.out, HRR.out, HTXS.out⟩
        go_wp2
        go_loopw [7] (fun i wr => ∃ k : Nat, k <= ln /\ i = .int .i64 k /\ Below W1.heap.size W1 wr /\ Hid (Tw.bad (r.names.take k) = 0)) (fun i _ => ln - (intOf i).toNat)
        case atStart => exact ⟨0, Nat.zero_le _, rfl, Below.refl _ _, rfl⟩
        case round =>
         obtain ⟨k, hk, rfl, hb, HBD⟩ := hrel
         have q0 : wr.cell? ⟨w0.heap.size, 0, none⟩ = some _ := (HBL.out.below hb).cell 0
         have q1 : wr.cell? ⟨w0.heap.size, 1, none⟩ = some _ := (HBL.out.below hb).cell 1
         have q2 : wr.cell? ⟨w0.heap.size, 2, none⟩ = some _ := (HBL.out.below hb).cell 2
         have q3 : wr.cell? ⟨w0.heap.size, 3, none⟩ = some _ := (HBL.out.below hb).cell 3
         have q4 : wr.cell? ⟨w0.heap.size, 4, none⟩ = some _ := (HBL.out.below hb).cell 4
         have HBB := Lib.hid hb
         clear d0 d1 d2 d3 d4 hW1
         by_cases hlt : k < ln
         ·have hlz : (k : Int) < (ln : Int) := by omega
          have hku : k < us.length := by rw [HUS.out]; exact hlt
          have hkn : k < r.names.length := by rw [HL.out.1]; exact hlt
          obtain ⟨a', rfl, y1⟩ := H1.out.cells _ (below5 HB.out hb) k hku
          obtain ⟨v, hv⟩ : ∃ v, us[k] = v := ⟨_, rfl⟩
          rw [hv] at y1
          have hrd : Rd v r.names[k] wr := by rw [<- hv]; exact (H1'.out k hku hkn).below (below5 HB.out hb)
          obtain ⟨o5, c5, rfl, _, _⟩ := hrd.form
          have HF := Lib.hid (refCheckName_any _ _ _ hrd (HN.out k hkn))
          have HBT := Lib.hid (Tw.bad_take hkn HBD.out)
          obtain ⟨z, hz⟩ : ∃ z, Nm.check r.names[k] = z := ⟨_, rfl⟩
          rw [hz] at HF HBT
          clear hrd hv hz hb
          by_cases hz0 : z = 0
          ·subst hz0
           go_wp2_with fail
           refine HF.out.mono ?_
           rintro e w5 ⟨rfl, b5⟩
           have hb5 := below5 HBB.out b5
           clear b5
           go_wp2_with fail
           exact ⟨⟨k + 1, hlt, by go_num, hb5, HBT⟩, by simp [intOf]; omega⟩
          ·have hz1 : (z != 0) = true := by simpa using hz0
           have HZ0 := Lib.hid hz0
           go_wp2_with fail
           refine HF.out.mono ?_
           rintro e w5 ⟨rfl, b5⟩
           have hb5 := below5 (below5 HB.out HBB.out) b5
           clear b5
           go_wp2_with fail
           go_ret
           have hbz : Tw.bad r.names = z := by
            rw [Tw.bad_up (k := k + 1) (by rw [HBT.out]; exact HZ0.out), HBT.out]
           exact ⟨ret_eq (HZ.out.symm.trans ((Tw.chk_name HG1.out HG2.out HFM.out (by rw [hbz]; exact HZ0.out)).trans hbz)), hb5⟩
         ·have hlz : ¬ ((k : Int) < (ln : Int)) := by omega
          have HNA : Hid (Tw.bad r.names = 0) := by
           have := HBD.out
           rw [List.take_of_length_le (by rw [HL.out.1]; omega)] at this; exact this
          clear hb
          by_cases h15 : t = 15
          ·have hb1' : b = 1 := by have e := HCNT.out; rw [HTT.out, h15] at e; simpa [Tw.cnt, eq_comm] using congrArg (fun x => x.2.1) e
           have hm1 : 0 < (numC r.nums).length := by
            have e2 := HL.out.2.1
            have e3 : (numC r.nums).length = r.nums.length := by simp [numC]
            have e4 := HE.out
            omega
           have hmz : (0 : Int) < (lm : Int) := by
            have e4 := HE.out
            omega
           have hm2 : 0 < r.nums.length := by simpa [numC] using hm1
           obtain ⟨a2, rfl, y2⟩ := H2.out.cells _ (below5 HB.out HBB.out) 0 hm1
           obtain ⟨u, hu⟩ : ∃ u : Nat, r.nums[0] = u := ⟨_, rfl⟩
           have hu2 : (numC r.nums)[0] = .int .u32 (u : Int) := by rw [<- hu]; simp [numC]
           have HU : Hid (r.nums.headD 0 = u) := by
            show r.nums.headD 0 = u
            rw [<- hu]; exact headD_get hm2
           rw [hu2] at y2
           have y2' : wr.cell? a2 = some (.int .u32 (u : Int)) := y2
           clear y2 hu2 hu hm2 hb1'
           have h15b : (t == 15) = true := by simpa using h15
           have h15d : decide (t = 15) = true := by simpa using h15
           have HT15 := Lib.hid h15
           clear h15
           by_cases gu : 65535 < u
           ·have gu1 : (65535 : Int) < (u : Int) := by omega
            have gu2 : decide ((65535 : Int) < (u : Int)) = true := by simp; omega
            have gu3 : decide (65535 < u) = true := by simp; omega
            have HGU := Lib.hid gu
            go_wp2_with fail
            go_ret
            exact ⟨ret_eq (HZ.out.symm.trans (Tw.chk_over (by rw [HTT.out]; exact HT15.out) HFM.out HNA.out (by rw [HU.out]; exact HGU.out))), below5 HB.out HBB.out⟩
           ·have gu1 : ¬ (65535 : Int) < (u : Int) := by omega
            have gu2 : decide ((65535 : Int) < (u : Int)) = false := by simp; omega
            have gu3 : decide (65535 < u) = false := by simp; omega
            have HGU := Lib.hid gu
            go_wp2
            go_loopw [9] (fun i wx => ∃ k : Nat, k <= lt /\ i = .int .i64 k /\ wx = wr /\ Hid (∀ x ∈ r.texts.take k, ¬ 255 < x.length)) (fun i _ => lt - (intOf i).toNat)
            case atStart => exact ⟨0, Nat.zero_le _, rfl, by trivial, fun x hx => by simp at hx⟩
            case round =>
             obtain ⟨k', hk', rfl, rfl, HTA⟩ := hrel
             by_cases hlt' : k' < lt
             ·have hlz' : (k' : Int) < (lt : Int) := by omega
              have hkt : k' < r.texts.length := by rw [HL.out.2.2.1]; exact hlt'
              obtain ⟨a3, rfl, y1⟩ := H3.out _ (below5 HB.out HBB.out) k' hkt
              obtain ⟨tx', htx'⟩ : ∃ tx, r.texts[k'] = tx := ⟨_, rfl⟩
              rw [htx'] at y1
              have HTX' := Lib.hid htx'
              obtain ⟨m, hm⟩ : ∃ m, tx'.length = m := ⟨_, rfl⟩
              have HM' := Lib.hid hm
              clear htx'
              by_cases g5 : 255 < m
              ·have g5' : (255 : Int) < (m : Int) := by omega
               have g5d : decide (255 < (m : Int)) = true := by simp; omega
               have g5n : decide (255 < m) = true := by simp; omega
               have HG5 := Lib.hid g5
               go_wp2_with fail
               go_ret
               exact ⟨ret_eq (HZ.out.symm.trans (Tw.chk_long HG1.out HG2.out HFM.out HNA.out (fun _ => by have := HGU.out; rw [HU.out]; omega) (.inl ⟨_, List.getElem_mem hkt, by rw [HTX'.out, HM'.out]; exact HG5.out⟩))), below5 HB.out HBB.out⟩
              ·have g5' : ¬ (255 : Int) < (m : Int) := by omega
               have g5d : decide (255 < (m : Int)) = false := by simp; omega
               have g5n : decide (255 < m) = false := by simp; omega
               have HG5 := Lib.hid g5
               go_wp2_with fail
               refine ⟨⟨k' + 1, hlt', by go_num, by trivial, fun x hx => ?_⟩, by simp [intOf]; omega⟩
               rw [List.take_succ_eq_append_getElem hkt, List.mem_append, List.mem_singleton] at hx
               rcases hx with hx | rfl
               ·exact HTA.out x hx
               ·rw [HTX'.out, HM'.out]; exact HG5.out
             ·have hlz' : ¬ ((k' : Int) < (lt : Int)) := by omega
              have HTE : Hid (∀ x ∈ r.texts, ¬ 255 < x.length) := by
               have := HTA.out
               rw [List.take_of_length_le (by rw [HL.out.2.2.1]; omega)] at this; exact this
              clear HTA
              by_cases gr : 1024 < lr
              ·have gr1 : (1024 : Int) < (lr : Int) := by omega
               have gr2 : decide ((1024 : Int) < (lr : Int)) = true := by simp; omega
               have gr3 : decide (1024 < lr) = true := by simp; omega
               have HGR := Lib.hid gr
               go_wp2_with fail
               go_ret
               exact ⟨ret_eq (HZ.out.symm.trans (Tw.chk_long HG1.out HG2.out HFM.out HNA.out (fun _ => by have := HGU.out; rw [HU.out]; omega) (.inr (by rw [HL.out.2.2.2]; exact HGR.out)))), below5 HB.out HBB.out⟩
              ·have gr1 : ¬ (1024 : Int) < (lr : Int) := by omega
               have gr2 : decide ((1024 : Int) < (lr : Int)) = false := by simp; omega
               have gr3 : decide (1024 < lr) = false := by simp; omega
               have HGR := Lib.hid gr
               go_wp2_with fail
               go_ret
               exact ⟨ret_eq (HZ.out.symm.trans (Tw.chk_ok HG1.out HG2.out HFM.out HNA.out (fun _ => by have := HGU.out; rw [HU.out]; omega) (fun h => h.elim (fun ⟨x, hx, hl⟩ => HTE.out x hx hl) (fun h => HGR.out (by rw [HL.out.2.2.2] at h; exact h))))), below5 HB.out HBB.out⟩
          ·have h15b : (t == 15) = false := by simpa using h15
           have h15d : decide (t = 15) = false := by simpa using h15
           have H15 := Lib.hid h15
           go_wp2
           go_loopw [9] (fun i wx => ∃ k : Nat, k <= lt /\ i = .int .i64 k /\ wx = wr /\ Hid (∀ x ∈ r.texts.take k, ¬ 255 < x.length)) (fun i _ => lt - (intOf i).toNat)
           case atStart => exact ⟨0, Nat.zero_le _, rfl, by trivial, fun x hx => by simp at hx⟩
           case round =>
            obtain ⟨k', hk', rfl, rfl, HTA⟩ := hrel
            by_cases hlt' : k' < lt
            ·have hlz' : (k' : Int) < (lt : Int) := by omega
             have hkt : k' < r.texts.length := by rw [HL.out.2.2.1]; exact hlt'
             obtain ⟨a3, rfl, y1⟩ := H3.out _ (below5 HB.out HBB.out) k' hkt
             obtain ⟨tx', htx'⟩ : ∃ tx, r.texts[k'] = tx := ⟨_, rfl⟩
             rw [htx'] at y1
             have HTX' := Lib.hid htx'
             obtain ⟨m, hm⟩ : ∃ m, tx'.length = m := ⟨_, rfl⟩
             have HM' := Lib.hid hm
             clear htx'
             by_cases g5 : 255 < m
             ·have g5' : (255 : Int) < (m : Int) := by omega
              have g5d : decide (255 < (m : Int)) = true := by simp; omega
              have g5n : decide (255 < m) = true := by simp; omega
              have HG5 := Lib.hid g5
              go_wp2_with fail
              go_ret
              exact ⟨ret_eq (HZ.out.symm.trans (Tw.chk_long HG1.out HG2.out HFM.out HNA.out (fun h => absurd (HTT.out.symm.trans h) H15.out) (.inl ⟨_, List.getElem_mem hkt, by rw [HTX'.out, HM'.out]; exact HG5.out⟩))), below5 HB.out HBB.out⟩
             ·have g5' : ¬ (255 : Int) < (m : Int) := by omega
              have g5d : decide (255 < (m : Int)) = false := by simp; omega
              have g5n : decide (255 < m) = false := by simp; omega
              have HG5 := Lib.hid g5
              go_wp2_with fail
              refine ⟨⟨k' + 1, hlt', by go_num, by trivial, fun x hx => ?_⟩, by simp [intOf]; omega⟩
              rw [List.take_succ_eq_append_getElem hkt, List.mem_append, List.mem_singleton] at hx
              rcases hx with hx | rfl
              ·exact HTA.out x hx
              ·rw [HTX'.out, HM'.out]; exact HG5.out
            ·have hlz' : ¬ ((k' : Int) < (lt : Int)) := by omega
             have HTE : Hid (∀ x ∈ r.texts, ¬ 255 < x.length) := by
              have := HTA.out
              rw [List.take_of_length_le (by rw [HL.out.2.2.1]; omega)] at this; exact this
             clear HTA
             by_cases gr : 1024 < lr
             ·have gr1 : (1024 : Int) < (lr : Int) := by omega
              have gr2 : decide ((1024 : Int) < (lr : Int)) = true := by simp; omega
              have gr3 : decide (1024 < lr) = true := by simp; omega
              have HGR := Lib.hid gr
              go_wp2_with fail
              go_ret
              exact ⟨ret_eq (HZ.out.symm.trans (Tw.chk_long HG1.out HG2.out HFM.out HNA.out (fun h => absurd (HTT.out.symm.trans h) H15.out) (.inr (by rw [HL.out.2.2.2]; exact HGR.out)))), below5 HB.out HBB.out⟩
             ·have gr1 : ¬ (1024 : Int) < (lr : Int) := by omega
              have gr2 : decide ((1024 : Int) < (lr : Int)) = false := by simp; omega
              have gr3 : decide (1024 < lr) = false := by simp; omega
              have HGR := Lib.hid gr
              go_wp2_with fail
              go_ret
              exact ⟨ret_eq (HZ.out.symm.trans (Tw.chk_ok HG1.out HG2.out HFM.out HNA.out (fun h => absurd (HTT.out.symm.trans h) H15.out) (fun h => h.elim (fun ⟨x, hx, hl⟩ => HTE.out x hx hl) (fun h => HGR.out (by rw [HL.out.2.2.2] at h; exact h))))), below5 HB.out HBB.out⟩
      ·have hr1 : ((lr : Int) != c) = true := by simpa using hr
       have hr2 : decide ((lr : Int) = c) = false := by simpa using hr
       have HR := Lib.hid hr
       go_wp2_with fail
       go_ret
       exact ⟨ret_eq (HZ.out.symm.trans (Tw.chk_form HG1.out HG2.out (fun hfm => by obtain ⟨x1, x2, x3, x4⟩ := Tw.form_cnt hfm HCNT.out; rw [HL.out.2.2.2] at x3; exact HR.out (x3 HCC.out)))), HB.out⟩
     ·have hc1 : decide (0 <= c) = false := by simpa using hc
      have HCC := Lib.hid hc
      cases tx with
      | false =>
       have HTXS : Hid (¬ Tw.txs r) := fun h => by have := HTI.out.2 h; cases this
       go_wp2_with fail
       go_ret
       exact ⟨ret_eq (HZ.out.symm.trans (Tw.chk_form HG1.out HG2.out (fun hfm => by obtain ⟨x1, x2, x3, x4⟩ := Tw.form_cnt hfm HCNT.out; exact HTXS.out x4))), HB.out⟩
      | true =>
       have HTXS : Hid (Tw.txs r) := HTI.out.1 rfl
       have HRR : Hid (0 <= c -> (lr : Int) = c) := fun h => absurd h HCC.out
       have HFM : Hid (Tw.form r) := by
        have e := HCNT.out
        show Tw.form r
        unfold Tw.form
        rw [e, HL.out.1, HL.out.2.1, HL.out.2.2.2]
        exact ⟨HA.out, HE.out, HRR.out, HTXS.out⟩
       go_wp2
       go_loopw [7] (fun i wr => ∃ k : Nat, k <= ln /\ i = .int .i64 k /\ Below W1.heap.size W1 wr /\ Hid (Tw.bad (r.names.take k) = 0)) (fun i _ => ln - (intOf i).toNat)
       case atStart => exact ⟨0, Nat.zero_le _, rfl, Below.refl _ _, rfl⟩
       case round =>
        obtain ⟨k, hk, rfl, hb, HBD⟩ := hrel
        have q0 : wr.cell? ⟨w0.heap.size, 0, none⟩ = some _ := (HBL.out.below hb).cell 0
        have q1 : wr.cell? ⟨w0.heap.size, 1, none⟩ = some _ := (HBL.out.below hb).cell 1
        have q2 : wr.cell? ⟨w0.heap.size, 2, none⟩ = some _ := (HBL.out.below hb).cell 2
        have q3 : wr.cell? ⟨w0.heap.size, 3, none⟩ = some _ := (HBL.out.below hb).cell 3
        have q4 : wr.cell? ⟨w0.heap.size, 4, none⟩ = some _ := (HBL.out.below hb).cell 4
        have HBB := Lib.hid hb
        clear d0 d1 d2 d3 d4 hW1
        by_cases hlt : k < ln
        ·have hlz : (k : Int) < (ln : Int) := by omega
         have hku : k < us.length := by rw [HUS.out]; exact hlt
         have hkn : k < r.names.length := by rw [HL.out.1]; exact hlt
         obtain ⟨a', rfl, y1⟩ := H1.out.cells _ (below5 HB.out hb) k hku
         obtain ⟨v, hv⟩ : ∃ v, us[k] = v := ⟨_, rfl⟩
         rw [hv] at y1
         have hrd : Rd v r.names[k] wr := by rw [<- hv]; exact (H1'.out k hku hkn).below (below5 HB.out hb)
         obtain ⟨o5, c5, rfl, _, _⟩ := hrd.form
         have HF := Lib.hid (refCheckName_any _ _ _ hrd (HN.out k hkn))
         have HBT := Lib.hid (Tw.bad_take hkn HBD.out)
         obtain ⟨z, hz⟩ : ∃ z, Nm.check r.names[k] = z := ⟨_, rfl⟩
         rw [hz] at HF HBT
         clear hrd hv hz hb
         by_cases hz0 : z = 0
         ·subst hz0
          go_wp2_with fail
          refine HF.out.mono ?_
          rintro e w5 ⟨rfl, b5⟩
          have hb5 := below5 HBB.out b5
          clear b5
          go_wp2_with fail
          exact ⟨⟨k + 1, hlt, by go_num, hb5, HBT⟩, by simp [intOf]; omega⟩
         ·have hz1 : (z != 0) = true := by simpa using hz0
          have HZ0 := Lib.hid hz0
          go_wp2_with fail
          refine HF.out.mono ?_
          rintro e w5 ⟨rfl, b5⟩
          have hb5 := below5 (below5 HB.out HBB.out) b5
          clear b5
          go_wp2_with fail
          go_ret
          have hbz : Tw.bad r.names = z := by
           rw [Tw.bad_up (k := k + 1) (by rw [HBT.out]; exact HZ0.out), HBT.out]
          exact ⟨ret_eq (HZ.out.symm.trans ((Tw.chk_name HG1.out HG2.out HFM.out (by rw [hbz]; exact HZ0.out)).trans hbz)), hb5⟩
        ·have hlz : ¬ ((k : Int) < (ln : Int)) := by omega
         have HNA : Hid (Tw.bad r.names = 0) := by
          have := HBD.out
          rw [List.take_of_length_le (by rw [HL.out.1]; omega)] at this; exact this
         clear hb
         by_cases h15 : t = 15
         ·have hb1' : b = 1 := by have e := HCNT.out; rw [HTT.out, h15] at e; simpa [Tw.cnt, eq_comm] using congrArg (fun x => x.2.1) e
          have hm1 : 0 < (numC r.nums).length := by
           have e2 := HL.out.2.1
           have e3 : (numC r.nums).length = r.nums.length := by simp [numC]
           have e4 := HE.out
           omega
          have hmz : (0 : Int) < (lm : Int) := by
           have e4 := HE.out
           omega
          have hm2 : 0 < r.nums.length := by simpa [numC] using hm1
          obtain ⟨a2, rfl, y2⟩ := H2.out.cells _ (below5 HB.out HBB.out) 0 hm1
          obtain ⟨u, hu⟩ : ∃ u : Nat, r.nums[0] = u := ⟨_, rfl⟩
          have hu2 : (numC r.nums)[0] = .int .u32 (u : Int) := by rw [<- hu]; simp [numC]
          have HU : Hid (r.nums.headD 0 = u) := by
           show r.nums.headD 0 = u
           rw [<- hu]; exact headD_get hm2
          rw [hu2] at y2
          have y2' : wr.cell? a2 = some (.int .u32 (u : Int)) := y2
          clear y2 hu2 hu hm2 hb1'
          have h15b : (t == 15) = true := by simpa using h15
          have h15d : decide (t = 15) = true := by simpa using h15
          have HT15 := Lib.hid h15
          clear h15
          by_cases gu : 65535 < u
          ·have gu1 : (65535 : Int) < (u : Int) := by omega
           have gu2 : decide ((65535 : Int) < (u : Int)) = true := by simp; omega
           have gu3 : decide (65535 < u) = true := by simp; omega
           have HGU := Lib.hid gu
           go_wp2_with fail
           go_ret
           exact ⟨ret_eq (HZ.out.symm.trans (Tw.chk_over (by rw [HTT.out]; exact HT15.out) HFM.out HNA.out (by rw [HU.out]; exact HGU.out))), below5 HB.out HBB.out⟩
          ·have gu1 : ¬ (65535 : Int) < (u : Int) := by omega
           have gu2 : decide ((65535 : Int) < (u : Int)) = false := by simp; omega
           have gu3 : decide (65535 < u) = false := by simp; omega
           have HGU := Lib.hid gu
           go_wp2
           go_loopw [9] (fun i wx => ∃ k : Nat, k <= lt /\ i = .int .i64 k /\ wx = wr /\ Hid (∀ x ∈ r.texts.take k, ¬ 255 < x.length)) (fun i _ => lt - (intOf i).toNat)
           case atStart => exact ⟨0, Nat.zero_le _, rfl, by trivial, fun x hx => by simp at hx⟩
           case round =>
            obtain ⟨k', hk', rfl, rfl, HTA⟩ := hrel
            by_cases hlt' : k' < lt
            ·have hlz' : (k' : Int) < (lt : Int) := by omega
             have hkt : k' < r.texts.length := by rw [HL.out.2.2.1]; exact hlt'
             obtain ⟨a3, rfl, y1⟩ := H3.out _ (below5 HB.out HBB.out) k' hkt
             obtain ⟨tx', htx'⟩ : ∃ tx, r.texts[k'] = tx := ⟨_, rfl⟩
             rw [htx'] at y1
             have HTX' := Lib.hid htx'
             obtain ⟨m, hm⟩ : ∃ m, tx'.length = m := ⟨_, rfl⟩
             have HM' := Lib.hid hm
             clear htx'
             by_cases g5 : 255 < m
             ·have g5' : (255 : Int) < (m : Int) := by omega
              have g5d : decide (255 < (m : Int)) = true := by simp; omega
              have g5n : decide (255 < m) = true := by simp; omega
              have HG5 := Lib.hid g5
              go_wp2_with fail
              go_ret
              exact ⟨ret_eq (HZ.out.symm.trans (Tw.chk_long HG1.out HG2.out HFM.out HNA.out (fun _ => by have := HGU.out; rw [HU.out]; omega) (.inl ⟨_, List.getElem_mem hkt, by rw [HTX'.out, HM'.out]; exact HG5.out⟩))), below5 HB.out HBB.out⟩
             ·have g5' : ¬ (255 : Int) < (m : Int) := by omega
              have g5d : decide (255 < (m : Int)) = false := by simp; omega
              have g5n : decide (255 < m) = false := by simp; omega
              have HG5 := Lib.hid g5
              go_wp2_with fail
              refine ⟨⟨k' + 1, hlt', by go_num, by trivial, fun x hx => ?_⟩, by simp [intOf]; omega⟩
              rw [List.take_succ_eq_append_getElem hkt, List.mem_append, List.mem_singleton] at hx
              rcases hx with hx | rfl
              ·exact HTA.out x hx
              ·rw [HTX'.out, HM'.out]; exact HG5.out
            ·have hlz' : ¬ ((k' : Int) < (lt : Int)) := by omega
             have HTE : Hid (∀ x ∈ r.texts, ¬ 255 < x.length) := by
              have := HTA.out
              rw [List.take_of_length_le (by rw [HL.out.2.2.1]; omega)] at this; exact this
             clear HTA
             by_cases gr : 1024 < lr
             ·have gr1 : (1024 : Int) < (lr : Int) := by omega
              have gr2 : decide ((1024 : Int) < (lr : Int)) = true := by simp; omega
              have gr3 : decide (1024 < lr) = true := by simp; omega
              have HGR := Lib.hid gr
              go_wp2_with fail
              go_ret
              exact ⟨ret_eq (HZ.out.symm.trans (Tw.chk_long HG1.out HG2.out HFM.out HNA.out (fun _ => by have := HGU.out; rw [HU.out]; omega) (.inr (by rw [HL.out.2.2.2]; exact HGR.out)))), below5 HB.out HBB.out⟩
             ·have gr1 : ¬ (1024 : Int) < (lr : Int) := by omega
              have gr2 : decide ((1024 : Int) < (lr : Int)) = false := by simp; omega
              have gr3 : decide (1024 < lr) = false := by simp; omega
              have HGR := Lib.hid gr
              go_wp2_with fail
              go_ret
              exact ⟨ret_eq (HZ.out.symm.trans (Tw.chk_ok HG1.out HG2.out HFM.out HNA.out (fun _ => by have := HGU.out; rw [HU.out]; omega) (fun h => h.elim (fun ⟨x, hx, hl⟩ => HTE.out x hx hl) (fun h => HGR.out (by rw [HL.out.2.2.2] at h; exact h))))), below5 HB.out HBB.out⟩
         ·have h15b : (t == 15) = false := by simpa using h15
          have h15d : decide (t = 15) = false := by simpa using h15
          have H15 := Lib.hid h15
          go_wp2
          go_loopw [9] (fun i wx => ∃ k : Nat, k <= lt /\ i = .int .i64 k /\ wx = wr /\ Hid (∀ x ∈ r.texts.take k, ¬ 255 < x.length)) (fun i _ => lt - (intOf i).toNat)
          case atStart => exact ⟨0, Nat.zero_le _, rfl, by trivial, fun x hx => by simp at hx⟩
          case round =>
           obtain ⟨k', hk', rfl, rfl, HTA⟩ := hrel
           by_cases hlt' : k' < lt
           ·have hlz' : (k' : Int) < (lt : Int) := by omega
            have hkt : k' < r.texts.length := by rw [HL.out.2.2.1]; exact hlt'
            obtain ⟨a3, rfl, y1⟩ := H3.out _ (below5 HB.out HBB.out) k' hkt
            obtain ⟨tx', htx'⟩ : ∃ tx, r.texts[k'] = tx := ⟨_, rfl⟩
            rw [htx'] at y1
            have HTX' := Lib.hid htx'
            obtain ⟨m, hm⟩ : ∃ m, tx'.length = m := ⟨_, rfl⟩
            have HM' := Lib.hid hm
            clear htx'
            by_cases g5 : 255 < m
            ·have g5' : (255 : Int) < (m : Int) := by omega
             have g5d : decide (255 < (m : Int)) = true := by simp; omega
             have g5n : decide (255 < m) = true := by simp; omega
             have HG5 := Lib.hid g5
             go_wp2_with fail
             go_ret
             exact ⟨ret_eq (HZ.out.symm.trans (Tw.chk_long HG1.out HG2.out HFM.out HNA.out (fun h => absurd (HTT.out.symm.trans h) H15.out) (.inl ⟨_, List.getElem_mem hkt, by rw [HTX'.out, HM'.out]; exact HG5.out⟩))), below5 HB.out HBB.out⟩
            ·have g5' : ¬ (255 : Int) < (m : Int) := by omega
             have g5d : decide (255 < (m : Int)) = false := by simp; omega
             have g5n : decide (255 < m) = false := by simp; omega
             have HG5 := Lib.hid g5
             go_wp2_with fail
             refine ⟨⟨k' + 1, hlt', by go_num, by trivial, fun x hx => ?_⟩, by simp [intOf]; omega⟩
             rw [List.take_succ_eq_append_getElem hkt, List.mem_append, List.mem_singleton] at hx
             rcases hx with hx | rfl
             ·exact HTA.out x hx
             ·rw [HTX'.out, HM'.out]; exact HG5.out
           ·have hlz' : ¬ ((k' : Int) < (lt : Int)) := by omega
            have HTE : Hid (∀ x ∈ r.texts, ¬ 255 < x.length) := by
             have := HTA.out
             rw [List.take_of_length_le (by rw [HL.out.2.2.1]; omega)] at this; exact this
            clear HTA
            by_cases gr : 1024 < lr
            ·have gr1 : (1024 : Int) < (lr : Int) := by omega
             have gr2 : decide ((1024 : Int) < (lr : Int)) = true := by simp; omega
             have gr3 : decide (1024 < lr) = true := by simp; omega
             have HGR := Lib.hid gr
             go_wp2_with fail
             go_ret
             exact ⟨ret_eq (HZ.out.symm.trans (Tw.chk_long HG1.out HG2.out HFM.out HNA.out (fun h => absurd (HTT.out.symm.trans h) H15.out) (.inr (by rw [HL.out.2.2.2]; exact HGR.out)))), below5 HB.out HBB.out⟩
            ·have gr1 : ¬ (1024 : Int) < (lr : Int) := by omega
             have gr2 : decide ((1024 : Int) < (lr : Int)) = false := by simp; omega
             have gr3 : decide (1024 < lr) = false := by simp; omega
             have HGR := Lib.hid gr
             go_wp2_with fail
             go_ret
             exact ⟨ret_eq (HZ.out.symm.trans (Tw.chk_ok HG1.out HG2.out HFM.out HNA.out (fun h => absurd (HTT.out.symm.trans h) H15.out) (fun h => h.elim (fun ⟨x, hx, hl⟩ => HTE.out x hx hl) (fun h => HGR.out (by rw [HL.out.2.2.2] at h; exact h))))), below5 HB.out HBB.out⟩
    ·have hb1 : ((lm : Int) != b) = true := by simpa using hb
     have hb2 : decide ((lm : Int) = b) = false := by simpa using hb
     have HE := Lib.hid hb
     go_wp2_with fail
     go_ret
     exact ⟨ret_eq (HZ.out.symm.trans (Tw.chk_form HG1.out HG2.out (fun hfm => by obtain ⟨x1, x2, x3, x4⟩ := Tw.form_cnt hfm HCNT.out; rw [HL.out.2.1] at x2; exact HE.out x2))), HB.out⟩
   ·have ha1 : ((ln : Int) != a) = true := by simpa using ha
    have ha2 : decide ((ln : Int) = a) = false := by simpa using ha
    have HA := Lib.hid ha
    go_wp2_with fail
    go_ret
    exact ⟨ret_eq (HZ.out.symm.trans (Tw.chk_form HG1.out HG2.out (fun hfm => by obtain ⟨x1, x2, x3, x4⟩ := Tw.form_cnt hfm HCNT.out; rw [HL.out.1] at x1; exact HA.out x1))), HB.out⟩
  ·have hl2 : ¬ (1 : Int) <= (lt : Int) := by omega
   have hl3 : decide ((1 : Int) <= (lt : Int)) = false := by simp; omega
   have hl4 : decide (1 <= lt) = false := by simp; omega
   have HTXS : Hid (¬ Tw.txs r) := by
    show ¬ _
    unfold Tw.txs; rw [if_pos H16.out, HL.out.2.2.1]
    omega
   go_enter Tryz.func19, Tryz.ntmps19
   go_wp2_with fail
   refine HC.out.mono ?_
   rintro e w1 ⟨rfl, rfl⟩
   by_cases ha : (ln : Int) = a
   ·have ha1 : ((ln : Int) != a) = false := by simp [ha]
    have ha2 : decide ((ln : Int) = a) = true := by simp [ha]
    have HA := Lib.hid ha
    clear ha
    by_cases hb : (lm : Int) = b
    ·have hb1 : ((lm : Int) != b) = false := by simp [hb]
     have hb2 : decide ((lm : Int) = b) = true := by simp [hb]
     have HE := Lib.hid hb
     clear hb
     by_cases hc : 0 <= c
     ·have hc1 : decide (0 <= c) = true := by simpa using hc
      have HCC := Lib.hid hc
      by_cases hr : (lr : Int) = c
      ·have hr1 : ((lr : Int) != c) = false := by simp [hr]
       have hr2 : decide ((lr : Int) = c) = true := by simp [hr]
       have HR := Lib.hid hr
       clear hr
       go_wp2_with fail
       go_ret
       exact ⟨ret_eq (HZ.out.symm.trans (Tw.chk_form HG1.out HG2.out (fun hfm => by obtain ⟨x1, x2, x3, x4⟩ := Tw.form_cnt hfm HCNT.out; exact HTXS.out x4))), HB.out⟩
      ·have hr1 : ((lr : Int) != c) = true := by simpa using hr
       have hr2 : decide ((lr : Int) = c) = false := by simpa using hr
       have HR := Lib.hid hr
       go_wp2_with fail
       go_ret
       exact ⟨ret_eq (HZ.out.symm.trans (Tw.chk_form HG1.out HG2.out (fun hfm => by obtain ⟨x1, x2, x3, x4⟩ := Tw.form_cnt hfm HCNT.out; rw [HL.out.2.2.2] at x3; exact HR.out (x3 HCC.out)))), HB.out⟩
     ·have hc1 : decide (0 <= c) = false := by simpa using hc
      have HCC := Lib.hid hc
      go_wp2_with fail
      go_ret
      exact ⟨ret_eq (HZ.out.symm.trans (Tw.chk_form HG1.out HG2.out (fun hfm => by obtain ⟨x1, x2, x3, x4⟩ := Tw.form_cnt hfm HCNT.out; exact HTXS.out x4))), HB.out⟩
    ·have hb1 : ((lm : Int) != b) = true := by simpa using hb
     have hb2 : decide ((lm : Int) = b) = false := by simpa using hb
     have HE := Lib.hid hb
     go_wp2_with fail
     go_ret
     exact ⟨ret_eq (HZ.out.symm.trans (Tw.chk_form HG1.out HG2.out (fun hfm => by obtain ⟨x1, x2, x3, x4⟩ := Tw.form_cnt hfm HCNT.out; rw [HL.out.2.1] at x2; exact HE.out x2))), HB.out⟩
   ·have ha1 : ((ln : Int) != a) = true := by simpa using ha
    have ha2 : decide ((ln : Int) = a) = false := by simpa using ha
    have HA := Lib.hid ha
    go_wp2_with fail
    go_ret
    exact ⟨ret_eq (HZ.out.symm.trans (Tw.chk_form HG1.out HG2.out (fun hfm => by obtain ⟨x1, x2, x3, x4⟩ := Tw.form_cnt hfm HCNT.out; rw [HL.out.1] at x1; exact HA.out x1))), HB.out⟩
 ·have h16b : (t == 16) = false := by simpa using h16
  have h16d : decide (t = 16) = false := by simpa using h16
  have H16 : Hid (¬ r.type = 16) := Lib.hid (by rw [HTT.out]; exact h16)
  clear h16
  obtain ⟨tx, htx⟩ : ∃ tx, ((lt : Int) == 0) = tx := ⟨_, rfl⟩
  have htx2 : decide ((lt : Int) = 0) = tx := by rw [<- htx]; rfl
  have HTI : Hid (tx = true ↔ Tw.txs r) := by
   show _ ↔ _
   unfold Tw.txs; rw [if_neg H16.out, HL.out.2.2.1, <- htx2]
   simp
  go_enter Tryz.func19, Tryz.ntmps19
  go_wp2_with fail
  refine HC.out.mono ?_
  rintro e w1 ⟨rfl, rfl⟩
  by_cases ha : (ln : Int) = a
  ·have ha1 : ((ln : Int) != a) = false := by simp [ha]
   have ha2 : decide ((ln : Int) = a) = true := by simp [ha]
   have HA := Lib.hid ha
   clear ha
   by_cases hb : (lm : Int) = b
   ·have hb1 : ((lm : Int) != b) = false := by simp [hb]
    have hb2 : decide ((lm : Int) = b) = true := by simp [hb]
    have HE := Lib.hid hb
    clear hb
    by_cases hc : 0 <= c
    ·have hc1 : decide (0 <= c) = true := by simpa using hc
     have HCC := Lib.hid hc
     by_cases hr : (lr : Int) = c
     ·have hr1 : ((lr : Int) != c) = false := by simp [hr]
      have hr2 : decide ((lr : Int) = c) = true := by simp [hr]
      have HR := Lib.hid hr
      clear hr
      cases tx with
      | false =>
       have HTXS : Hid (¬ Tw.txs r) := fun h => by have := HTI.out.2 h; cases this
       go_wp2_with fail
       go_ret
       exact ⟨ret_eq (HZ.out.symm.trans (Tw.chk_form HG1.out HG2.out (fun hfm => by obtain ⟨x1, x2, x3, x4⟩ := Tw.form_cnt hfm HCNT.out; exact HTXS.out x4))), HB.out⟩
      | true =>
       have HTXS : Hid (Tw.txs r) := HTI.out.1 rfl
       have HRR : Hid (0 <= c -> (lr : Int) = c) := fun _ => HR.out
       have HFM : Hid (Tw.form r) := by
        have e := HCNT.out
        show Tw.form r
        unfold Tw.form
        rw [e, HL.out.1, HL.out.2.1, HL.out.2.2.2]
        exact ⟨HA.out, HE.out, HRR.out, HTXS.out⟩
       go_wp2
       go_loopw [7] (fun i wr => ∃ k : Nat, k <= ln /\ i = .int .i64 k /\ Below W1.heap.size W1 wr /\ Hid (Tw.bad (r.names.take k) = 0)) (fun i _ => ln - (intOf i).toNat)
       case atStart => exact ⟨0, Nat.zero_le _, rfl, Below.refl _ _, rfl⟩
       case round =>
        obtain ⟨k, hk, rfl, hb, HBD⟩ := hrel
        have q0 : wr.cell? ⟨w0.heap.size, 0, none⟩ = some _ := (HBL.out.below hb).cell 0
        have q1 : wr.cell? ⟨w0.heap.size, 1, none⟩ = some _ := (HBL.out.below hb).cell 1
        have q2 : wr.cell? ⟨w0.heap.size, 2, none⟩ = some _ := (HBL.out.below hb).cell 2
        have q3 : wr.cell? ⟨w0.heap.size, 3, none⟩ = some _ := (HBL.out.below hb).cell 3
        have q4 : wr.cell? ⟨w0.heap.size, 4, none⟩ = some _ := (HBL.out.below hb).cell 4
        have HBB := Lib.hid hb
        clear d0 d1 d2 d3 d4 hW1
        by_cases hlt : k < ln
        ·have hlz : (k : Int) < (ln : Int) := by omega
         have hku : k < us.length := by rw [HUS.out]; exact hlt
         have hkn : k < r.names.length := by rw [HL.out.1]; exact hlt
         obtain ⟨a', rfl, y1⟩ := H1.out.cells _ (below5 HB.out hb) k hku
         obtain ⟨v, hv⟩ : ∃ v, us[k] = v := ⟨_, rfl⟩
         rw [hv] at y1
         have hrd : Rd v r.names[k] wr := by rw [<- hv]; exact (H1'.out k hku hkn).below (below5 HB.out hb)
         obtain ⟨o5, c5, rfl, _, _⟩ := hrd.form
         have HF := Lib.hid (refCheckName_any _ _ _ hrd (HN.out k hkn))
         have HBT := Lib.hid (Tw.bad_take hkn HBD.out)
         obtain ⟨z, hz⟩ : ∃ z, Nm.check r.names[k] = z := ⟨_, rfl⟩
         rw [hz] at HF HBT
         clear hrd hv hz hb
         by_cases hz0 : z = 0
         ·subst hz0
          go_wp2_with fail
          refine HF.out.mono ?_
          rintro e w5 ⟨rfl, b5⟩
          have hb5 := below5 HBB.out b5
          clear b5
          go_wp2_with fail
          exact ⟨⟨k + 1, hlt, by go_num, hb5, HBT⟩, by simp [intOf]; omega⟩
         ·have hz1 : (z != 0) = true := by simpa using hz0
          have HZ0 := Lib.hid hz0
          go_wp2_with fail
          refine HF.out.mono ?_
          rintro e w5 ⟨rfl, b5⟩
          have hb5 := below5 (below5 HB.out HBB.out) b5
          clear b5
          go_wp2_with fail
          go_ret
          have hbz : Tw.bad r.names = z := by
           rw [Tw.bad_up (k := k + 1) (by rw [HBT.out]; exact HZ0.out), HBT.out]
          exact ⟨ret_eq (HZ.out.symm.trans ((Tw.chk_name HG1.out HG2.out HFM.out (by rw [hbz]; exact HZ0.out)).trans hbz)), hb5⟩
        ·have hlz : ¬ ((k : Int) < (ln : Int)) := by omega
         have HNA : Hid (Tw.bad r.names = 0) := by
          have := HBD.out
          rw [List.take_of_length_le (by rw [HL.out.1]; omega)] at this; exact this
         clear hb
         by_cases h15 : t = 15
         ·have hb1' : b = 1 := by have e := HCNT.out; rw [HTT.out, h15] at e; simpa [Tw.cnt, eq_comm] using congrArg (fun x => x.2.1) e
          have hm1 : 0 < (numC r.nums).length := by
           have e2 := HL.out.2.1
           have e3 : (numC r.nums).length = r.nums.length := by simp [numC]
           have e4 := HE.out
           omega
          have hmz : (0 : Int) < (lm : Int) := by
           have e4 := HE.out
           omega
          have hm2 : 0 < r.nums.length := by simpa [numC] using hm1
          obtain ⟨a2, rfl, y2⟩ := H2.out.cells _ (below5 HB.out HBB.out) 0 hm1
          obtain ⟨u, hu⟩ : ∃ u : Nat, r.nums[0] = u := ⟨_, rfl⟩
          have hu2 : (numC r.nums)[0] = .int .u32 (u : Int) := by rw [<- hu]; simp [numC]
          have HU : Hid (r.nums.headD 0 = u) := by
           show r.nums.headD 0 = u
           rw [<- hu]; exact headD_get hm2
          rw [hu2] at y2
          have y2' : wr.cell? a2 = some (.int .u32 (u : Int)) := y2
          clear y2 hu2 hu hm2 hb1'
          have h15b : (t == 15) = true := by simpa using h15
          have h15d : decide (t = 15) = true := by simpa using h15
          have HT15 := Lib.hid h15
          clear h15
          by_cases gu : 65535 < u
          ·have gu1 : (65535 : Int) < (u : Int) := by omega
           have gu2 : decide ((65535 : Int) < (u : Int)) = true := by simp; omega
           have gu3 : decide (65535 < u) = true := by simp; omega
           have HGU := Lib.hid gu
           go_wp2_with fail
           go_ret
           exact ⟨ret_eq (HZ.out.symm.trans (Tw.chk_over (by rw [HTT.out]; exact HT15.out) HFM.out HNA.out (by rw [HU.out]; exact HGU.out))), below5 HB.out HBB.out⟩
          ·have gu1 : ¬ (65535 : Int) < (u : Int) := by omega
           have gu2 : decide ((65535 : Int) < (u : Int)) = false := by simp; omega
           have gu3 : decide (65535 < u) = false := by simp; omega
           have HGU := Lib.hid gu
           go_wp2
           go_loopw [9] (fun i wx => ∃ k : Nat, k <= lt /\ i = .int .i64 k /\ wx = wr /\ Hid (∀ x ∈ r.texts.take k, ¬ 255 < x.length)) (fun i _ => lt - (intOf i).toNat)
           case atStart => exact ⟨0, Nat.zero_le _, rfl, by trivial, fun x hx => by simp at hx⟩
           case round =>
            obtain ⟨k', hk', rfl, rfl, HTA⟩ := hrel
            by_cases hlt' : k' < lt
            ·have hlz' : (k' : Int) < (lt : Int) := by omega
             have hkt : k' < r.texts.length := by rw [HL.out.2.2.1]; exact hlt'
             obtain ⟨a3, rfl, y1⟩ := H3.out _ (below5 HB.out HBB.out) k' hkt
             obtain ⟨tx', htx'⟩ : ∃ tx, r.texts[k'] = tx := ⟨_, rfl⟩
             rw [htx'] at y1
             have HTX' := Lib.hid htx'
             obtain ⟨m, hm⟩ : ∃ m, tx'.length = m := ⟨_, rfl⟩
             have HM' := Lib.hid hm
             clear htx'
             by_cases g5 : 255 < m
             ·have g5' : (255 : Int) < (m : Int) := by omega
              have g5d : decide (255 < (m : Int)) = true := by simp; omega
              have g5n : decide (255 < m) = true := by simp; omega
              have HG5 := Lib.hid g5
              go_wp2_with fail
              go_ret
              exact ⟨ret_eq (HZ.out.symm.trans (Tw.chk_long HG1.out HG2.out HFM.out HNA.out (fun _ => by have := HGU.out; rw [HU.out]; omega) (.inl ⟨_, List.getElem_mem hkt, by rw [HTX'.out, HM'.out]; exact HG5.out⟩))), below5 HB.out HBB.out⟩
             ·have g5' : ¬ (255 : Int) < (m : Int) := by omega
              have g5d : decide (255 < (m : Int)) = false := by simp; omega
              have g5n : decide (255 < m) = false := by simp; omega
              have HG5 := Lib.hid g5
              go_wp2_with fail
              refine ⟨⟨k' + 1, hlt', by go_num, by trivial, fun x hx => ?_⟩, by simp [intOf]; omega⟩
              rw [List.take_succ_eq_append_getElem hkt, List.mem_append, List.mem_singleton] at hx
              rcases hx with hx | rfl
              ·exact HTA.out x hx
              ·rw [HTX'.out, HM'.out]; exact HG5.out
            ·have hlz' : ¬ ((k' : Int) < (lt : Int)) := by omega
             have HTE : Hid (∀ x ∈ r.texts, ¬ 255 < x.length) := by
              have := HTA.out
              rw [List.take_of_length_le (by rw [HL.out.2.2.1]; omega)] at this; exact this
             clear HTA
             by_cases gr : 1024 < lr
             ·have gr1 : (1024 : Int) < (lr : Int) := by omega
              have gr2 : decide ((1024 : Int) < (lr : Int)) = true := by simp; omega
              have gr3 : decide (1024 < lr) = true := by simp; omega
              have HGR := Lib.hid gr
              go_wp2_with fail
              go_ret
              exact ⟨ret_eq (HZ.out.symm.trans (Tw.chk_long HG1.out HG2.out HFM.out HNA.out (fun _ => by have := HGU.out; rw [HU.out]; omega) (.inr (by rw [HL.out.2.2.2]; exact HGR.out)))), below5 HB.out HBB.out⟩
             ·have gr1 : ¬ (1024 : Int) < (lr : Int) := by omega
              have gr2 : decide ((1024 : Int) < (lr : Int)) = false := by simp; omega
              have gr3 : decide (1024 < lr) = false := by simp; omega
              have HGR := Lib.hid gr
              go_wp2_with fail
              go_ret
              exact ⟨ret_eq (HZ.out.symm.trans (Tw.chk_ok HG1.out HG2.out HFM.out HNA.out (fun _ => by have := HGU.out; rw [HU.out]; omega) (fun h => h.elim (fun ⟨x, hx, hl⟩ => HTE.out x hx hl) (fun h => HGR.out (by rw [HL.out.2.2.2] at h; exact h))))), below5 HB.out HBB.out⟩
         ·have h15b : (t == 15) = false := by simpa using h15
          have h15d : decide (t = 15) = false := by simpa using h15
          have H15 := Lib.hid h15
          go_wp2
          go_loopw [9] (fun i wx => ∃ k : Nat, k <= lt /\ i = .int .i64 k /\ wx = wr /\ Hid (∀ x ∈ r.texts.take k, ¬ 255 < x.length)) (fun i _ => lt - (intOf i).toNat)
          case atStart => exact ⟨0, Nat.zero_le _, rfl, by trivial, fun x hx => by simp at hx⟩
          case round =>
           obtain ⟨k', hk', rfl, rfl, HTA⟩ := hrel
           by_cases hlt' : k' < lt
           ·have hlz' : (k' : Int) < (lt : Int) := by omega
            have hkt : k' < r.texts.length := by rw [HL.out.2.2.1]; exact hlt'
            obtain ⟨a3, rfl, y1⟩ := H3.out _ (below5 HB.out HBB.out) k' hkt
            obtain ⟨tx', htx'⟩ : ∃ tx, r.texts[k'] = tx := ⟨_, rfl⟩
            rw [htx'] at y1
            have HTX' := Lib.hid htx'
            obtain ⟨m, hm⟩ : ∃ m, tx'.length = m := ⟨_, rfl⟩
            have HM' := Lib.hid hm
            clear htx'
            by_cases g5 : 255 < m
            ·have g5' : (255 : Int) < (m : Int) := by omega
             have g5d : decide (255 < (m : Int)) = true := by simp; omega
             have g5n : decide (255 < m) = true := by simp; omega
             have HG5 := Lib.hid g5
             go_wp2_with fail
             go_ret
             exact ⟨ret_eq (HZ.out.symm.trans (Tw.chk_long HG1.out HG2.out HFM.out HNA.out (fun h => absurd (HTT.out.symm.trans h) H15.out) (.inl ⟨_, List.getElem_mem hkt, by rw [HTX'.out, HM'.out]; exact HG5.out⟩))), below5 HB.out HBB.out⟩
            ·have g5' : ¬ (255 : Int) < (m : Int) := by omega
             have g5d : decide (255 < (m : Int)) = false := by simp; omega
             have g5n : decide (255 < m) = false := by simp; omega
             have HG5 := Lib.hid g5
             go_wp2_with fail
             refine ⟨⟨k' + 1, hlt', by go_num, by trivial, fun x hx => ?_⟩, by simp [intOf]; omega⟩
             rw [List.take_succ_eq_append_getElem hkt, List.mem_append, List.mem_singleton] at hx
             rcases hx with hx | rfl
             ·exact HTA.out x hx
             ·rw [HTX'.out, HM'.out]; exact HG5.out
           ·have hlz' : ¬ ((k' : Int) < (lt : Int)) := by omega
            have HTE : Hid (∀ x ∈ r.texts, ¬ 255 < x.length) := by
             have := HTA.out
             rw [List.take_of_length_le (by rw [HL.out.2.2.1]; omega)] at this; exact this
            clear HTA
            by_cases gr : 1024 < lr
            ·have gr1 : (1024 : Int) < (lr : Int) := by omega
             have gr2 : decide ((1024 : Int) < (lr : Int)) = true := by simp; omega
             have gr3 : decide (1024 < lr) = true := by simp; omega
             have HGR := Lib.hid gr
             go_wp2_with fail
             go_ret
             exact ⟨ret_eq (HZ.out.symm.trans (Tw.chk_long HG1.out HG2.out HFM.out HNA.out (fun h => absurd (HTT.out.symm.trans h) H15.out) (.inr (by rw [HL.out.2.2.2]; exact HGR.out)))), below5 HB.out HBB.out⟩
            ·have gr1 : ¬ (1024 : Int) < (lr : Int) := by omega
             have gr2 : decide ((1024 : Int) < (lr : Int)) = false := by simp; omega
             have gr3 : decide (1024 < lr) = false := by simp; omega
             have HGR := Lib.hid gr
             go_wp2_with fail
             go_ret
             exact ⟨ret_eq (HZ.out.symm.trans (Tw.chk_ok HG1.out HG2.out HFM.out HNA.out (fun h => absurd (HTT.out.symm.trans h) H15.out) (fun h => h.elim (fun ⟨x, hx, hl⟩ => HTE.out x hx hl) (fun h => HGR.out (by rw [HL.out.2.2.2] at h; exact h))))), below5 HB.out HBB.out⟩
     ·have hr1 : ((lr : Int) != c) = true := by simpa using hr
      have hr2 : decide ((lr : Int) = c) = false := by simpa using hr
      have HR := Lib.hid hr
      go_wp2_with fail
      go_ret
      exact ⟨ret_eq (HZ.out.symm.trans (Tw.chk_form HG1.out HG2.out (fun hfm => by obtain ⟨x1, x2, x3, x4⟩ := Tw.form_cnt hfm HCNT.out; rw [HL.out.2.2.2] at x3; exact HR.out (x3 HCC.out)))), HB.out⟩
    ·have hc1 : decide (0 <= c) = false := by simpa using hc
     have HCC := Lib.hid hc
     cases tx with
     | false =>
      have HTXS : Hid (¬ Tw.txs r) := fun h => by have := HTI.out.2 h; cases this
      go_wp2_with fail
      go_ret
      exact ⟨ret_eq (HZ.out.symm.trans (Tw.chk_form HG1.out HG2.out (fun hfm => by obtain ⟨x1, x2, x3, x4⟩ := Tw.form_cnt hfm HCNT.out; exact HTXS.out x4))), HB.out⟩
     | true =>
      have HTXS : Hid (Tw.txs r) := HTI.out.1 rfl
      have HRR : Hid (0 <= c -> (lr : Int) = c) := fun h => absurd h HCC.out
      have HFM : Hid (Tw.form r) := by
       have e := HCNT.out
       show Tw.form r
       unfold Tw.form
       rw [e, HL.out.1, HL.out.2.1, HL.out.2.2.2]
       exact ⟨HA.out, HE.out, HRR.out, HTXS.out⟩
      go_wp2
      go_loopw [7] (fun i wr => ∃ k : Nat, k <= ln /\ i = .int .i64 k /\ Below W1.heap.size W1 wr /\ Hid (Tw.bad (r.names.take k) = 0)) (fun i _ => ln - (intOf i).toNat)
      case atStart => exact ⟨0, Nat.zero_le _, rfl, Below.refl _ _, rfl⟩
      case round =>
       obtain ⟨k, hk, rfl, hb, HBD⟩ := hrel
       have q0 : wr.cell? ⟨w0.heap.size, 0, none⟩ = some _ := (HBL.out.below hb).cell 0
       have q1 : wr.cell? ⟨w0.heap.size, 1, none⟩ = some _ := (HBL.out.below hb).cell 1
       have q2 : wr.cell? ⟨w0.heap.size, 2, none⟩ = some _ := (HBL.out.below hb).cell 2
       have q3 : wr.cell? ⟨w0.heap.size, 3, none⟩ = some _ := (HBL.out.below hb).cell 3
       have q4 : wr.cell? ⟨w0.heap.size, 4, none⟩ = some _ := (HBL.out.below hb).cell 4
       have HBB := Lib.hid hb
       clear d0 d1 d2 d3 d4 hW1
       by_cases hlt : k < ln
       ·have hlz : (k : Int) < (ln : Int) := by omega
        have hku : k < us.length := by rw [HUS.out]; exact hlt
        have hkn : k < r.names.length := by rw [HL.out.1]; exact hlt
        obtain ⟨a', rfl, y1⟩ := H1.out.cells _ (below5 HB.out hb) k hku
        obtain ⟨v, hv⟩ : ∃ v, us[k] = v := ⟨_, rfl⟩
        rw [hv] at y1
        have hrd : Rd v r.names[k] wr := by rw [<- hv]; exact (H1'.out k hku hkn).below (below5 HB.out hb)
        obtain ⟨o5, c5, rfl, _, _⟩ := hrd.form
        have HF := Lib.hid (refCheckName_any _ _ _ hrd (HN.out k hkn))
        have HBT := Lib.hid (Tw.bad_take hkn HBD.out)
        obtain ⟨z, hz⟩ : ∃ z, Nm.check r.names[k] = z := ⟨_, rfl⟩
        rw [hz] at HF HBT
        clear hrd hv hz hb
        by_cases hz0 : z = 0
        ·subst hz0
         go_wp2_with fail
         refine HF.out.mono ?_
         rintro e w5 ⟨rfl, b5⟩
         have hb5 := below5 HBB.out b5
         clear b5
         go_wp2_with fail
         exact ⟨⟨k + 1, hlt, by go_num, hb5, HBT⟩, by simp [intOf]; omega⟩
        ·have hz1 : (z != 0) = true := by simpa using hz0
         have HZ0 := Lib.hid hz0
         go_wp2_with fail
         refine HF.out.mono ?_
         rintro e w5 ⟨rfl, b5⟩
         have hb5 := below5 (below5 HB.out HBB.out) b5
         clear b5
         go_wp2_with fail
         go_ret
         have hbz : Tw.bad r.names = z := by
          rw [Tw.bad_up (k := k + 1) (by rw [HBT.out]; exact HZ0.out), HBT.out]
         exact ⟨ret_eq (HZ.out.symm.trans ((Tw.chk_name HG1.out HG2.out HFM.out (by rw [hbz]; exact HZ0.out)).trans hbz)), hb5⟩
       ·have hlz : ¬ ((k : Int) < (ln : Int)) := by omega
        have HNA : Hid (Tw.bad r.names = 0) := by
         have := HBD.out
         rw [List.take_of_length_le (by rw [HL.out.1]; omega)] at this; exact this
        clear hb
        by_cases h15 : t = 15
        ·have hb1' : b = 1 := by have e := HCNT.out; rw [HTT.out, h15] at e; simpa [Tw.cnt, eq_comm] using congrArg (fun x => x.2.1) e
         have hm1 : 0 < (numC r.nums).length := by
          have e2 := HL.out.2.1
          have e3 : (numC r.nums).length = r.nums.length := by simp [numC]
          have e4 := HE.out
          omega
         have hmz : (0 : Int) < (lm : Int) := by
          have e4 := HE.out
          omega
         have hm2 : 0 < r.nums.length := by simpa [numC] using hm1
         obtain ⟨a2, rfl, y2⟩ := H2.out.cells _ (below5 HB.out HBB.out) 0 hm1
         obtain ⟨u, hu⟩ : ∃ u : Nat, r.nums[0] = u := ⟨_, rfl⟩
         have hu2 : (numC r.nums)[0] = .int .u32 (u : Int) := by rw [<- hu]; simp [numC]
         have HU : Hid (r.nums.headD 0 = u) := by
          show r.nums.headD 0 = u
          rw [<- hu]; exact headD_get hm2
         rw [hu2] at y2
         have y2' : wr.cell? a2 = some (.int .u32 (u : Int)) := y2
         clear y2 hu2 hu hm2 hb1'
         have h15b : (t == 15) = true := by simpa using h15
         have h15d : decide (t = 15) = true := by simpa using h15
         have HT15 := Lib.hid h15
         clear h15
         by_cases gu : 65535 < u
         ·have gu1 : (65535 : Int) < (u : Int) := by omega
          have gu2 : decide ((65535 : Int) < (u : Int)) = true := by simp; omega
          have gu3 : decide (65535 < u) = true := by simp; omega
          have HGU := Lib.hid gu
          go_wp2_with fail
          go_ret
          exact ⟨ret_eq (HZ.out.symm.trans (Tw.chk_over (by rw [HTT.out]; exact HT15.out) HFM.out HNA.out (by rw [HU.out]; exact HGU.out))), below5 HB.out HBB.out⟩
         ·have gu1 : ¬ (65535 : Int) < (u : Int) := by omega
          have gu2 : decide ((65535 : Int) < (u : Int)) = false := by simp; omega
          have gu3 : decide (65535 < u) = false := by simp; omega
          have HGU := Lib.hid gu
          go_wp2
          go_loopw [9] (fun i wx => ∃ k : Nat, k <= lt /\ i = .int .i64 k /\ wx = wr /\ Hid (∀ x ∈ r.texts.take k, ¬ 255 < x.length)) (fun i _ => lt - (intOf i).toNat)
          case atStart => exact ⟨0, Nat.zero_le _, rfl, by trivial, fun x hx => by simp at hx⟩
          case round =>
           obtain ⟨k', hk', rfl, rfl, HTA⟩ := hrel
           by_cases hlt' : k' < lt
           ·have hlz' : (k' : Int) < (lt : Int) := by omega
            have hkt : k' < r.texts.length := by rw [HL.out.2.2.1]; exact hlt'
            obtain ⟨a3, rfl, y1⟩ := H3.out _ (below5 HB.out HBB.out) k' hkt
            obtain ⟨tx', htx'⟩ : ∃ tx, r.texts[k'] = tx := ⟨_, rfl⟩
            rw [htx'] at y1
            have HTX' := Lib.hid htx'
            obtain ⟨m, hm⟩ : ∃ m, tx'.length = m := ⟨_, rfl⟩
            have HM' := Lib.hid hm
            clear htx'
            by_cases g5 : 255 < m
            ·have g5' : (255 : Int) < (m : Int) := by omega
             have g5d : decide (255 < (m : Int)) = true := by simp; omega
             have g5n : decide (255 < m) = true := by simp; omega
             have HG5 := Lib.hid g5
             go_wp2_with fail
             go_ret
             exact ⟨ret_eq (HZ.out.symm.trans (Tw.chk_long HG1.out HG2.out HFM.out HNA.out (fun _ => by have := HGU.out; rw [HU.out]; omega) (.inl ⟨_, List.getElem_mem hkt, by rw [HTX'.out, HM'.out]; exact HG5.out⟩))), below5 HB.out HBB.out⟩
            ·have g5' : ¬ (255 : Int) < (m : Int) := by omega
             have g5d : decide (255 < (m : Int)) = false := by simp; omega
             have g5n : decide (255 < m) = false := by simp; omega
             have HG5 := Lib.hid g5
             go_wp2_with fail
             refine ⟨⟨k' + 1, hlt', by go_num, by trivial, fun x hx => ?_⟩, by simp [intOf]; omega⟩
             rw [List.take_succ_eq_append_getElem hkt, List.mem_append, List.mem_singleton] at hx
             rcases hx with hx | rfl
             ·exact HTA.out x hx
             ·rw [HTX'.out, HM'.out]; exact HG5.out
           ·have hlz' : ¬ ((k' : Int) < (lt : Int)) := by omega
            have HTE : Hid (∀ x ∈ r.texts, ¬ 255 < x.length) := by
             have := HTA.out
             rw [List.take_of_length_le (by rw [HL.out.2.2.1]; omega)] at this; exact this
            clear HTA
            by_cases gr : 1024 < lr
            ·have gr1 : (1024 : Int) < (lr : Int) := by omega
             have gr2 : decide ((1024 : Int) < (lr : Int)) = true := by simp; omega
             have gr3 : decide (1024 < lr) = true := by simp; omega
             have HGR := Lib.hid gr
             go_wp2_with fail
             go_ret
             exact ⟨ret_eq (HZ.out.symm.trans (Tw.chk_long HG1.out HG2.out HFM.out HNA.out (fun _ => by have := HGU.out; rw [HU.out]; omega) (.inr (by rw [HL.out.2.2.2]; exact HGR.out)))), below5 HB.out HBB.out⟩
            ·have gr1 : ¬ (1024 : Int) < (lr : Int) := by omega
             have gr2 : decide ((1024 : Int) < (lr : Int)) = false := by simp; omega
             have gr3 : decide (1024 < lr) = false := by simp; omega
             have HGR := Lib.hid gr
             go_wp2_with fail
             go_ret
             exact ⟨ret_eq (HZ.out.symm.trans (Tw.chk_ok HG1.out HG2.out HFM.out HNA.out (fun _ => by have := HGU.out; rw [HU.out]; omega) (fun h => h.elim (fun ⟨x, hx, hl⟩ => HTE.out x hx hl) (fun h => HGR.out (by rw [HL.out.2.2.2] at h; exact h))))), below5 HB.out HBB.out⟩
        ·have h15b : (t == 15) = false := by simpa using h15
         have h15d : decide (t = 15) = false := by simpa using h15
         have H15 := Lib.hid h15
         go_wp2
         go_loopw [9] (fun i wx => ∃ k : Nat, k <= lt /\ i = .int .i64 k /\ wx = wr /\ Hid (∀ x ∈ r.texts.take k, ¬ 255 < x.length)) (fun i _ => lt - (intOf i).toNat)
         case atStart => exact ⟨0, Nat.zero_le _, rfl, by trivial, fun x hx => by simp at hx⟩
         case round =>
          obtain ⟨k', hk', rfl, rfl, HTA⟩ := hrel
          by_cases hlt' : k' < lt
          ·have hlz' : (k' : Int) < (lt : Int) := by omega
           have hkt : k' < r.texts.length := by rw [HL.out.2.2.1]; exact hlt'
           obtain ⟨a3, rfl, y1⟩ := H3.out _ (below5 HB.out HBB.out) k' hkt
           obtain ⟨tx', htx'⟩ : ∃ tx, r.texts[k'] = tx := ⟨_, rfl⟩
           rw [htx'] at y1
           have HTX' := Lib.hid htx'
           obtain ⟨m, hm⟩ : ∃ m, tx'.length = m := ⟨_, rfl⟩
           have HM' := Lib.hid hm
           clear htx'
           by_cases g5 : 255 < m
           ·have g5' : (255 : Int) < (m : Int) := by omega
            have g5d : decide (255 < (m : Int)) = true := by simp; omega
            have g5n : decide (255 < m) = true := by simp; omega
            have HG5 := Lib.hid g5
            go_wp2_with fail
            go_ret
            exact ⟨ret_eq (HZ.out.symm.trans (Tw.chk_long HG1.out HG2.out HFM.out HNA.out (fun h => absurd (HTT.out.symm.trans h) H15.out) (.inl ⟨_, List.getElem_mem hkt, by rw [HTX'.out, HM'.out]; exact HG5.out⟩))), below5 HB.out HBB.out⟩
           ·have g5' : ¬ (255 : Int) < (m : Int) := by omega
            have g5d : decide (255 < (m : Int)) = false := by simp; omega
            have g5n : decide (255 < m) = false := by simp; omega
            have HG5 := Lib.hid g5
            go_wp2_with fail
            refine ⟨⟨k' + 1, hlt', by go_num, by trivial, fun x hx => ?_⟩, by simp [intOf]; omega⟩
            rw [List.take_succ_eq_append_getElem hkt, List.mem_append, List.mem_singleton] at hx
            rcases hx with hx | rfl
            ·exact HTA.out x hx
            ·rw [HTX'.out, HM'.out]; exact HG5.out
          ·have hlz' : ¬ ((k' : Int) < (lt : Int)) := by omega
           have HTE : Hid (∀ x ∈ r.texts, ¬ 255 < x.length) := by
            have := HTA.out
            rw [List.take_of_length_le (by rw [HL.out.2.2.1]; omega)] at this; exact this
           clear HTA
           by_cases gr : 1024 < lr
           ·have gr1 : (1024 : Int) < (lr : Int) := by omega
            have gr2 : decide ((1024 : Int) < (lr : Int)) = true := by simp; omega
            have gr3 : decide (1024 < lr) = true := by simp; omega
            have HGR := Lib.hid gr
            go_wp2_with fail
            go_ret
            exact ⟨ret_eq (HZ.out.symm.trans (Tw.chk_long HG1.out HG2.out HFM.out HNA.out (fun h => absurd (HTT.out.symm.trans h) H15.out) (.inr (by rw [HL.out.2.2.2]; exact HGR.out)))), below5 HB.out HBB.out⟩
           ·have gr1 : ¬ (1024 : Int) < (lr : Int) := by omega
            have gr2 : decide ((1024 : Int) < (lr : Int)) = false := by simp; omega
            have gr3 : decide (1024 < lr) = false := by simp; omega
            have HGR := Lib.hid gr
            go_wp2_with fail
            go_ret
            exact ⟨ret_eq (HZ.out.symm.trans (Tw.chk_ok HG1.out HG2.out HFM.out HNA.out (fun h => absurd (HTT.out.symm.trans h) H15.out) (fun h => h.elim (fun ⟨x, hx, hl⟩ => HTE.out x hx hl) (fun h => HGR.out (by rw [HL.out.2.2.2] at h; exact h))))), below5 HB.out HBB.out⟩
   ·have hb1 : ((lm : Int) != b) = true := by simpa using hb
    have hb2 : decide ((lm : Int) = b) = false := by simpa using hb
    have HE := Lib.hid hb
    go_wp2_with fail
    go_ret
    exact ⟨ret_eq (HZ.out.symm.trans (Tw.chk_form HG1.out HG2.out (fun hfm => by obtain ⟨x1, x2, x3, x4⟩ := Tw.form_cnt hfm HCNT.out; rw [HL.out.2.1] at x2; exact HE.out x2))), HB.out⟩
  ·have ha1 : ((ln : Int) != a) = true := by simpa using ha
   have ha2 : decide ((ln : Int) = a) = false := by simpa using ha
   have HA := Lib.hid ha
   go_wp2_with fail
   go_ret
   exact ⟨ret_eq (HZ.out.symm.trans (Tw.chk_form HG1.out HG2.out (fun hfm => by obtain ⟨x1, x2, x3, x4⟩ := Tw.form_cnt hfm HCNT.out; rw [HL.out.1] at x1; exact HA.out x1))), HB.out⟩
set_option maxHeartbeats 1000000 in
theorem checkRec2_any (vs : List Value) (r : Rc.PRec) (w0 : World) (h : RecRd vs r w0) (ho : NB r.owner) (hf : DF r) :
  Calls Tryz.prog 6 #[.agg vs.toArray] w0 (Gives (.int .i64 (Tw.chkR r)) w0) := by
 obtain ⟨p0, n0, q0, p1, n1, q1, p2, n2, q2, p3, n3, q3, p4, n4, q4, rfl, hro, hrd⟩ := h.cells
 obtain ⟨tt, htt⟩ : ∃ tt, r.ttl = tt := ⟨_, rfl⟩
 rw [htt]
 obtain ⟨W1, hW1⟩ : ∃ W1, w0.alloc (.cells #[.slice p0 n0 q0, .int .u32 (tt : Int), .int .i64 r.type, .slice p1 n1 q1, .slice p2 n2 q2, .slice p3 n3 q3, .slice p4 n4 q4] 40) = W1 := ⟨_, rfl⟩
 have hb1 : Below w0.heap.size w0 W1 := by subst hW1; exact (Below.refl _ _).alloc (Nat.le_refl _) _
 have k0 : Blk w0.heap.size #[.slice p0 n0 q0, .int .u32 (tt : Int), .int .i64 r.type, .slice p1 n1 q1, .slice p2 n2 q2, .slice p3 n3 q3, .slice p4 n4 q4] 40 W1 := by subst hW1; exact Blk.new w0 _ _
 have d0 : W1.cell? ⟨w0.heap.size, 0, none⟩ = some _ := k0.cell 0
 have K0 := Lib.hid k0
 have HB := Lib.hid hb1
 have HN := Lib.hid (refCheckName_any _ _ _ (hro.below hb1) ho)
 have HD := Lib.hid (fun w' (hw : Below w0.heap.size w0 w') => checkData2_any _ r w' (hrd.below hw) hf)
 obtain ⟨z, hz⟩ : ∃ z, Nm.check r.owner = z := ⟨_, rfl⟩
 rw [hz] at HN
 obtain ⟨y, hy⟩ : ∃ y, Tw.chkR r = y := ⟨_, rfl⟩
 rw [hy]
 have HY := Lib.hid hy
 have HZ := Lib.hid hz
 have HTL := Lib.hid htt
 clear hro hrd h k0 hb1 hz hf ho hy htt
 by_cases hz0 : z = 0
 ·subst hz0
  by_cases ht : 2147483647 < tt
  ·have ht1 : (2147483647 : Int) < (tt : Int) := by omega
   have ht2 : decide ((2147483647 : Int) < (tt : Int)) = true := by simp; omega
   have ht3 : decide (2147483647 < tt) = true := by simp; omega
   go_enter Tryz.func6, Tryz.ntmps6
   go_wp2_with fail
   refine HN.out.mono ?_
   rintro e w2 ⟨rfl, b2⟩
   have e1 : w2.cell? ⟨w0.heap.size, 1, none⟩ = some _ := (K0.out.below b2).cell 1
   have HB2 := Lib.hid (below5 HB.out b2)
   clear b2
   go_wp2_with fail
   go_ret
   exact ⟨ret_eq (by rw [<- HY.out]; unfold Tw.chkR; rw [if_neg (fun h => h HZ.out), if_pos (by rw [HTL.out]; exact ht)]), HB2.out⟩
  ·have ht1 : ¬ (2147483647 : Int) < (tt : Int) := by omega
   have ht2 : decide ((2147483647 : Int) < (tt : Int)) = false := by simp; omega
   have ht3 : decide (2147483647 < tt) = false := by simp; omega
   go_enter Tryz.func6, Tryz.ntmps6
   go_wp2_with fail
   refine HN.out.mono ?_
   rintro e w2 ⟨rfl, b2⟩
   have e1 : w2.cell? ⟨w0.heap.size, 1, none⟩ = some _ := (K0.out.below b2).cell 1
   have e2 : w2.cell? ⟨w0.heap.size, 2, none⟩ = some _ := (K0.out.below b2).cell 2
   have e3 : w2.cell? ⟨w0.heap.size, 3, none⟩ = some _ := (K0.out.below b2).cell 3
   have e4 : w2.cell? ⟨w0.heap.size, 4, none⟩ = some _ := (K0.out.below b2).cell 4
   have e5 : w2.cell? ⟨w0.heap.size, 5, none⟩ = some _ := (K0.out.below b2).cell 5
   have e6 : w2.cell? ⟨w0.heap.size, 6, none⟩ = some _ := (K0.out.below b2).cell 6
   have HB2 := Lib.hid (below5 HB.out b2)
   have HD2 := Lib.hid (HD.out _ (below5 HB.out b2))
   clear b2
   go_wp2_with fail
   refine HD2.out.mono ?_
   rintro e w3 ⟨rfl, b3⟩
   go_wp2_with fail
   go_ret
   exact ⟨ret_eq (by rw [<- HY.out]; unfold Tw.chkR; rw [if_neg (fun h => h HZ.out), if_neg (by rw [HTL.out]; exact ht)]), below5 HB2.out b3⟩
 ·have hz1 : (z != 0) = true := by simpa using hz0
  go_enter Tryz.func6, Tryz.ntmps6
  go_wp2_with fail
  refine HN.out.mono ?_
  rintro e w2 ⟨rfl, b2⟩
  have HB2 := Lib.hid (below5 HB.out b2)
  clear b2
  go_wp2_with fail
  go_ret
  exact ⟨ret_eq (by rw [<- HY.out]; unfold Tw.chkR; rw [if_pos (by rw [HZ.out]; exact hz0), HZ.out]), HB2.out⟩
end Go.Proofs.YtgmbefolgppmdaaGreatDoor
end
