/- Names: how long, whether they may be, a star ahead. -/
import Derived.Test.YtgmbefolgppmdaaGreatDoorKNmSpec
import Derived.Lib.SliceRun
section
namespace Go.Proofs.YtgmbefolgppmdaaGreatDoor
open Go.RowKit Go.Shelf
set_option maxRecDepth 100000
attribute [local go_sem] Oper.semAt_some
theorem Nm.len_append (a b : List (List UInt8)) : Nm.len (a ++ b) + 1 = Nm.len a + Nm.len b := by
 induction a with
 | nil => simp [Nm.len]; omega
 | cons x r ih => simp only [List.cons_append, Nm.len]; omega
theorem Nm.len_take (n : List (List UInt8)) (k : Nat) (h : k < n.length) : Nm.len (n.take (k + 1)) = Nm.len (n.take k) + 1 + n[k].length := by
 have := Nm.len_append (n.take k) [n[k]]
 rw [<- List.take_succ_eq_append_getElem h] at this
 simp only [Nm.len] at this; omega
theorem Nm.len_drop (n : List (List UInt8)) (k : Nat) (h : k < n.length) : Nm.len (n.drop k) = Nm.len (n.drop (k + 1)) + 1 + n[k].length := by
 rw [List.drop_eq_getElem_cons h]; simp only [Nm.len]; omega
set_option maxHeartbeats 1000000 in
theorem refLen_any (v : Value) (n : List (List UInt8)) (w : World) (hv : Rd v n w) (hn : NB n) :
  Calls Tryz.prog 43 #[v] w (Gives (.int .i64 (Nm.len n)) w) := by
 obtain ⟨o, cap, rfl, h1, h2⟩ := hv.form
 have HC := Lib.hid hv.cells
 have n1 : (n.length : Int) <= 1000 := by have := hn.1; omega
 have GN := Lib.hid (show ∀ k, Nm.len (n.take k) <= 1001001 from fun k => (hn.take k).len)
 have GA := Lib.hid (show ∀ k (h : k < n.length), n[k].length <= 1000 from fun k h => hn.get h)
 clear hv hn
 go_enter Tryz.func43, Tryz.ntmps43
 go_wp2
 go_loopw [3, 4] (fun s i wr => ∃ k : Nat, k <= n.length /\ s = .int .i64 (Nm.len (n.take k)) /\ i = .int .i64 k /\ Below w.heap.size w wr) (fun _ i _ => n.length - (intOf i).toNat)
 case atStart => exact ⟨0, by omega, rfl, rfl, Below.refl _ _⟩
 case round =>
  obtain ⟨k, hk, rfl, rfl, hb⟩ := hrel
  by_cases hlt : k < n.length
  ·obtain ⟨x, rfl, e1⟩ := HC.out _ hb k hlt
   have g1 := GN.out k
   have g2 := GA.out k hlt
   have HT := Lib.hid (Nm.len_take n k hlt)
   go_wp2_with fail
   exact ⟨⟨k + 1, by omega, by rw [HT.out]; go_num, by go_num, hb⟩, by simp [intOf]; omega⟩
  ·obtain rfl : k = n.length := by omega
   go_wp2_with fail
   go_ret
   exact ⟨by rw [List.take_length]; rfl, hb⟩
def lblY (n : List (List UInt8)) (k : Nat) (_ : World) (v : Array Value) (k' : Nat) : Prop := ∃ h : k < n.length, v = #[S (n[n.length - 1 - k]'(by omega))] /\ k' = k + 1
def lblPre (B0 b : Nat) (o : Option Addr) (cap : Nat) (n : List (List UInt8)) (W : World) : Prop :=
 W.cell? ⟨b, 0, none⟩ = some (.slice o n.length cap) /\ ∀ j (h : j < n.length), ∃ a : Addr, o = some a /\ a.block < B0 /\ W.cell? (a.add j) = some (S n[j])
def keepsTo (B0 b : Nat) (A W : World) : Prop := sameCell b A W /\ ∀ p : Addr, p.block < B0 -> W.cell? p = A.cell? p
theorem keepsTo.trans {B0 b : Nat} (A B C : World) (h : keepsTo B0 b A B) (k : keepsTo B0 b B C) : keepsTo B0 b A C := ⟨sameCell.trans A B C h.1 k.1, fun p hp => (k.2 p hp).trans (h.2 p hp)⟩
theorem keepsTo.put {B0 b L : Nat} (hL : B0 <= L) (hb : b ≠ L) (A : World) (o : Obj) : keepsTo B0 b A (A.putObj L o) := ⟨sameCell.put (by omega) A o, fun p hp => World.cell?_of_block (World.putObj_heap_other (by omega))⟩
theorem add_block (a : Addr) (j : Nat) : (a.add j).block = a.block := by unfold Addr.add; split <;> rfl
theorem lblPre.kept {B0 b o cap n A W} (h : lblPre B0 b o cap n A) (hk : keepsTo B0 b A W) : lblPre B0 b o cap n W :=
 ⟨Eq.trans hk.1 h.1, fun j hj => by obtain ⟨a, h1, h2, h3⟩ := h.2 j hj; exact ⟨a, h1, h2, (hk.2 _ (by rw [add_block]; exact h2)).trans h3⟩⟩
theorem labels_any (o : Option Addr) (l cap : Nat) (w : World) :
  Calls Tryz.prog 81 #[.slice o l cap] w fun e w' => e = .returned (.func (.func 111) #[] #[.pointer (some ⟨w.heap.size, 0, none⟩)]) /\ w.alloc (.cells #[.slice o l cap] 23) = w' := by
 go_enter Tryz.func81, Tryz.ntmps81
 go_wp2
 go_ret
 exact ⟨rfl, rfl⟩
set_option maxHeartbeats 1000000 in
theorem labels1_iter (B0 b : Nat) (o : Option Addr) (cap : Nat) (n : List (List UInt8)) (_h1 : n.length <= cap) (hn : n.length <= 1000) :
  Iter Tryz.prog 111 #[.pointer (some ⟨b, 0, none⟩)] (lblPre B0 b o cap n) (fun A B => A = B) (keepsTo B0 b) (lblY n) 0 (fun k => k = n.length) := by
 intro l J Jx W hpre _ _ hY h0
 refine callsIn_of_wp Tryz.func111 rfl trivial ?_ rfl
 simp only [Tryz.ntmps111, List.size_toArray, List.length_cons, List.length_nil, Nat.reduceAdd, Nat.reduceSub, Array.replicate_succ, Array.replicate_zero, List.push_toArray, List.append_toArray, List.nil_append, List.cons_append]
 have HPre := Lib.hid hpre
 have hc := hpre.1
 have n1 : (n.length : Int) <= 1000 := by omega
 clear hpre
 gi_wp2
 gi_loopw [3] (fun p wr => ∃ k : Nat, k <= n.length /\ p = .int .i64 ((n.length : Int) - 1 - k) /\ J k wr /\ lblPre B0 b o cap n wr) (fun p _ => (intOf p + 1).toNat)
 case atStart => exact ⟨0, by omega, by go_num, h0, HPre.out⟩
 case round =>
  obtain ⟨k, hk, rfl, hJ, hc⟩ := hrel
  by_cases hlt : k < n.length
  ·obtain ⟨fn, tmps, assign, body, hy, hR⟩ := hY k (k + 1) _ wr hJ ⟨hlt, rfl, rfl⟩
   have HPre' := Lib.hid hc
   obtain ⟨c1, c2⟩ := hc
   obtain ⟨a, rfl, c3, c4⟩ := c2 (n.length - 1 - k) (by omega)
   clear c2
   have hix : ((n.length : Int) - 1 - k) = ((n.length - 1 - k : Nat) : Int) := by omega
   gi_wp2
   refine hR.mono ?_
   rintro e W3 (⟨rfl, hJ3, hk3⟩ | ⟨rfl, hJx3⟩)
   ·have hc3 := HPre'.out.kept hk3
    gi_wp2
    go_roundw
    case rel => exact ⟨k + 1, by omega, by go_num, hJ3, hc3⟩
    case measure => simp [intOf]; omega
   ·gi_wp2
    refine bodyPost_ret (results_none rfl _ _ _) rfl ?_
    exact ⟨⟨_, rfl⟩, .inr hJx3⟩
  ·obtain rfl : n.length = k := by omega
   gi_wp2
   go_end0
   exact ⟨⟨_, rfl⟩, .inl ⟨_, rfl, hJ⟩⟩
def LenI (B : Nat) (w : World) (o : Option Addr) (cap : Nat) (n : List (List UInt8)) (k : Nat) (W : World) : Prop :=
 k <= n.length /\ Box B 3 (.int .i64 (Nm.len (n.drop (n.length - k)))) W /\ Box (B + 1) 23 (.slice o n.length cap) W /\ Below B w W /\ B + 2 <= W.heap.size
theorem LenI.put {B w o cap n L} (hL : B <= L) (k : Nat) (A : World) (r : Loop) (ob : Obj) (h : LenI B w o cap n k A) (hr : A.heap[L]? = some (.loop r)) : LenI B w o cap n k (A.putObj L ob) := by
 obtain ⟨h0, h1, h2, h3, h4⟩ := h
 exact ⟨h0, h1.put hr ob, h2.put hr ob, below_put h3 hL hr (by omega) ob, by simpa using h4⟩
theorem LenI.alloc {B w o cap n k W} (h : LenI B w o cap n k W) (ob : Obj) : LenI B w o cap n k (W.alloc ob) := by
 obtain ⟨h0, h1, h2, h3, h4⟩ := h
 exact ⟨h0, h1.alloc ob, h2.alloc ob, h3.alloc (by omega) ob, by simp; omega⟩
set_option maxHeartbeats 1000000 in
theorem nLen_any (v : Value) (n : List (List UInt8)) (w : World) (hv : Rd v n w) (hn : NB n) :
  Calls Tryz.prog 50 #[v] w (Gives (.int .i64 (Nm.len n)) w) := by
 obtain ⟨o, cap, rfl, h1, h2⟩ := hv.form
 have HC := Lib.hid hv.cells
 have hn1 := hn.1
 have GN := Lib.hid (show ∀ k, Nm.len (n.drop k) <= 1001001 from fun k => (hn.drop k).len)
 have GA := Lib.hid (show ∀ k (h : k < n.length), n[k].length <= 1000 from fun k h => hn.get h)
 have hpr : ∀ W, Below w.heap.size w W -> Box (w.heap.size + 1) 23 (.slice o n.length cap) W -> lblPre w.heap.size (w.heap.size + 1) o cap n W := fun W hb hx =>
  ⟨hx.cell, fun j hj => by
   obtain ⟨a, ha, hc⟩ := hv.cells w (Below.refl _ _) j hj
   have hlt := cell_lt hc
   exact ⟨a, ha, by rwa [add_block] at hlt, (hb.cell hlt).trans hc⟩⟩
 have HPR := Lib.hid hpr
 clear hv hn hpr
 refine (callsIn_wide (n := 0)).1 ?_
 refine callsIn_of_wp_marks Tryz.func50 rfl trivial ?_ rfl
 simp only [Tryz.ntmps50, List.size_toArray, List.length_cons, List.length_nil, Nat.reduceAdd, Nat.reduceSub, Array.replicate_succ, Array.replicate_zero, List.push_toArray, List.append_toArray, List.nil_append, List.cons_append]
 gi_wp2_with (gi_at_call 81; refine (callsIn_wide.2 (labels_any _ _ _ _)).mono ?_; rintro e w' ⟨rfl, rfl⟩)
 obtain ⟨W0, hW0, hM0, hs0⟩ : ∃ W0, ((w.alloc (.cells #[.int .i64 1] 3)).alloc (.cells #[.slice o n.length cap] 23)) = W0 /\ LenI w.heap.size w o cap n 0 W0 /\ W0.heap.size = w.heap.size + 2 := by
  refine ⟨_, rfl, ⟨by omega, ?_, ?_, ((Below.refl _ _).alloc (by simp) _).alloc (by simp) _, by simp⟩, by simp⟩
  ·rw [Nat.sub_zero, List.drop_length]
   exact (Box.new w 3 (.int .i64 1)).alloc _
  ·have := Box.new (w.alloc (.cells #[.int .i64 1] 3)) 23 (.slice o n.length cap)
   rwa [World.size_alloc] at this
 rw [hW0]
 clear hW0
 refine rf_outer rfl (enters_of Tryz.func111 (by kernel_rfl) rfl) (labels1_iter w.heap.size (w.heap.size + 1) o cap n h1 hn1)
  (fun A B h => by subst h; exact KeepsOthers.refl _) keepsTo.trans (fun A o => keepsTo.put (by omega) (by omega) A o)
  (fun _ _ _ _ ⟨_, h, _⟩ => by subst h; rfl)
  (LenI w.heap.size w o cap n) (fun _ _ => False) (fun _ _ _ h e => by subst e; exact h) (fun _ _ _ h _ => h)
  (LenI.put (by omega)) (fun _ _ _ _ h _ => h)
  (fun r => ?start) (fun r => ?pre) ?round ?done (fun _ _ h => h.elim)
 case start => exact (hM0.alloc _).alloc _
 case pre => exact HPR.out _ ((hM0.alloc _).alloc _).2.2.2.1 ((hM0.alloc _).alloc _).2.2.1
 case round =>
  rintro l k k' v W hI ⟨hk, rfl, rfl⟩
  gi_wp2
  refine rfNext_same ⟨Eq.refl _, fun _ _ => rfl⟩ hI (LenI.put (by omega)) ?_
  clear hI hM0
  rintro W r rfl hr ⟨g0, g1, g2, g3, g4⟩
  have hct := g1.cell
  have hft := g1.frozen
  have b1 := GN.out (n.length - k)
  have b2 := GA.out (n.length - 1 - k) (by omega)
  have HD := Lib.hid (Nm.len_drop n (n.length - 1 - k) (by omega))
  gi_wp2
  have hx := g2.setOther (c := w.heap.size) (o := 0) (by omega) (.int .i64 ((Nm.len (n.drop (n.length - k)) : Int) + (1 + (n[n.length - 1 - k].length : Int))))
  have hz := g1.set (.int .i64 ((Nm.len (n.drop (n.length - k)) : Int) + (1 + (n[n.length - 1 - k].length : Int))))
  refine ⟨KeepsOthers.setCell _ _ _, ⟨g2.same hx, fun p hp => World.cell?_of_block (Below.heap_setCell _ _ _ _ (by simp; omega))⟩, by omega, ?_, hx, g3.setCell (p := ⟨w.heap.size, 0, none⟩) (Nat.le_refl _) _, by simpa [World.setCell] using g4⟩
  have e : n.length - (k + 1) = n.length - 1 - k := by omega
  have e2 : n.length - 1 - k + 1 = n.length - k := by omega
  rw [e, HD.out, e2]
  rwa [show (((Nm.len (n.drop (n.length - k)) + 1 + n[n.length - 1 - k].length : Nat)) : Int) = (Nm.len (n.drop (n.length - k)) : Int) + (1 + (n[n.length - 1 - k].length : Int)) by omega]
 case done =>
  rintro k W rfl ⟨g0, g1, g2, g3, g4⟩ hKd
  rw [Nat.sub_self, List.drop_zero] at g1
  have hct := g1.cell
  rw [hs0] at hKd ⊢
  gi_wp2
  refine ⟨by simp, .inl ⟨_, _, rfl, run_takeDeferred hKd, ?_⟩⟩
  exact ⟨_, results_tmp rfl _ _ _, rfl, below_putD g3 (by omega) (by omega) _⟩
end Go.Proofs.YtgmbefolgppmdaaGreatDoor
end
section
namespace Go.Proofs.YtgmbefolgppmdaaGreatDoor
open Go.RowKit Go.Shelf
set_option maxRecDepth 100000
theorem Nm.check0_step {n : List (List UInt8)} {k} (h : Nm.check0 n = Nm.check0 (n.drop k)) (hk : k < n.length) (hc : Lb.check n[k].length = 0) : Nm.check0 n = Nm.check0 (n.drop (k + 1)) := by
 rw [h, List.drop_eq_getElem_cons hk]; simp [Nm.check0, hc]
theorem Nm.check0_stop {n : List (List UInt8)} {k} (h : Nm.check0 n = Nm.check0 (n.drop k)) (hk : k < n.length) (hc : Lb.check n[k].length ≠ 0) : Nm.check n = Lb.check n[k].length := by
 have : Nm.check0 n = Lb.check n[k].length := by rw [h, List.drop_eq_getElem_cons hk]; simp [Nm.check0, hc]
 unfold Nm.check; rw [this, if_neg hc]
theorem Nm.check0_done {n : List (List UInt8)} (h : Nm.check0 n = Nm.check0 (n.drop n.length)) : Nm.check n = if 255 < Nm.len n then 3 else 0 := by
 rw [List.drop_length] at h; unfold Nm.check; rw [h]; rfl
set_option maxHeartbeats 1000000 in
theorem refCheckName_any (v : Value) (n : List (List UInt8)) (w : World) (hv : Rd v n w) (hn : NB n) :
  Calls Tryz.prog 18 #[v] w (Gives (.int .i64 (Nm.check n)) w) := by
 have HV := Lib.hid (show ∀ wr, Below w.heap.size w wr -> Rd v n wr from fun wr hb => hv.below hb)
 obtain ⟨o, cap, rfl, h1, h2⟩ := hv.form
 have HC := Lib.hid hv.cells
 have n1 : (n.length : Int) <= 1000 := by have := hn.1; omega
 have GA := Lib.hid (show ∀ k (h : k < n.length), n[k].length <= 1000000 from fun k h => by have := hn.get h; omega)
 have HN := Lib.hid hn
 clear hv hn
 go_enter Tryz.func18, Tryz.ntmps18
 go_wp2
 go_loopw [3] (fun i wr => ∃ k : Nat, k <= n.length /\ Nm.check0 n = Nm.check0 (n.drop k) /\ i = .int .i64 k /\ Below w.heap.size w wr) (fun i _ => n.length - (intOf i).toNat)
 case atStart => exact ⟨0, by omega, rfl, rfl, Below.refl _ _⟩
 case round =>
  obtain ⟨k, hk, hch, rfl, hb⟩ := hrel
  have HCH := Lib.hid hch
  clear hch
  by_cases hlt : k < n.length
  ·obtain ⟨x, rfl, e1⟩ := HC.out _ hb k hlt
   have g2 := GA.out k hlt
   by_cases hz : Lb.check n[k].length = 0
   ·have HS := Lib.hid (Nm.check0_step HCH.out hlt hz)
    have HZ := Lib.hid hz
    clear hz
    go_wp2_with fail
    refine (refCheck_any n[k] _ g2).mono ?_
    rintro e w1 ⟨rfl, rfl⟩
    rw [HZ.out]
    go_wp2_with fail
    exact ⟨⟨k + 1, by omega, HS.out, by go_num, hb⟩, by simp [intOf]; omega⟩
   ·have HS := Lib.hid (Nm.check0_stop HCH.out hlt hz)
    have hz' : (Lb.check n[k].length != 0) = true := by simpa using hz
    clear hz
    go_wp2_with fail
    refine (refCheck_any n[k] _ g2).mono ?_
    rintro e w1 ⟨rfl, rfl⟩
    go_wp2_with fail
    go_ret
    exact ⟨by rw [HS.out]; rfl, hb⟩
  ·obtain rfl : k = n.length := by omega
   have HS := Lib.hid (Nm.check0_done HCH.out)
   by_cases hlen : 255 < Nm.len n
   ·have HL := Lib.hid (show Nm.check n = 3 by rw [HS.out, if_pos hlen])
    have hlen' : 255 < (Nm.len n : Int) := by omega
    clear hlen
    go_wp2_with fail
    refine (refLen_any _ n _ (HV.out _ hb) HN.out).mono ?_
    rintro e w1 ⟨rfl, b1⟩
    go_wp2_with fail
    go_ret
    exact ⟨by rw [HL.out]; rfl, below5 hb b1⟩
   ·have HL := Lib.hid (show Nm.check n = 0 by rw [HS.out, if_neg hlen])
    have hlen' : (Nm.len n : Int) <= 255 := by omega
    clear hlen
    go_wp2_with fail
    refine (refLen_any _ n _ (HV.out _ hb) HN.out).mono ?_
    rintro e w1 ⟨rfl, b1⟩
    go_wp2_with fail
    go_ret
    exact ⟨by rw [HL.out]; rfl, below5 hb b1⟩
set_option maxHeartbeats 1000000 in
theorem nCheck_any (v : Value) (n : List (List UInt8)) (w : World) (hv : Rd v n w) (hn : NB n) :
  Calls Tryz.prog 23 #[v] w (Gives (.int .i64 (Nm.check n)) w) := by
 have HV := Lib.hid (show ∀ wr, Below w.heap.size w wr -> Rd v n wr from fun wr hb => hv.below hb)
 obtain ⟨o, cap, rfl, h1, h2⟩ := hv.form
 have HC := Lib.hid hv.cells
 have n1 : (n.length : Int) <= 1000 := by have := hn.1; omega
 have GA := Lib.hid (show ∀ k (h : k < n.length), n[k].length <= 1000000 from fun k h => by have := hn.get h; omega)
 have HN := Lib.hid hn
 clear hv hn
 go_enter Tryz.func23, Tryz.ntmps23
 go_wp2
 go_loopw [8] (fun i wr => ∃ k : Nat, k <= n.length /\ Nm.check0 n = Nm.check0 (n.drop k) /\ i = .int .i64 k /\ Below w.heap.size w wr) (fun i _ => n.length - (intOf i).toNat)
 case atStart => exact ⟨0, by omega, rfl, rfl, Below.refl _ _⟩
 case round =>
  obtain ⟨k, hk, hch, rfl, hb⟩ := hrel
  have HCH := Lib.hid hch
  clear hch
  by_cases hlt : k < n.length
  ·obtain ⟨x, rfl, e1⟩ := HC.out _ hb k hlt
   have g2 := GA.out k hlt
   by_cases hz : Lb.check n[k].length = 0
   ·have HS := Lib.hid (Nm.check0_step HCH.out hlt hz)
    have HZ := Lib.hid hz
    clear hz
    go_wp2_with fail
    refine (check_any n[k] _ g2).mono ?_
    rintro e w1 ⟨rfl, rfl⟩
    rw [HZ.out]
    go_wp2_with fail
    exact ⟨⟨k + 1, by omega, HS.out, by go_num, hb⟩, by simp [intOf]; omega⟩
   ·have HS := Lib.hid (Nm.check0_stop HCH.out hlt hz)
    have hz' : (Lb.check n[k].length != 0) = true := by simpa using hz
    clear hz
    go_wp2_with fail
    refine (check_any n[k] _ g2).mono ?_
    rintro e w1 ⟨rfl, rfl⟩
    go_wp2_with fail
    go_ret
    exact ⟨by rw [HS.out]; rfl, hb⟩
  ·obtain rfl : k = n.length := by omega
   have HS := Lib.hid (Nm.check0_done HCH.out)
   by_cases hlen : 255 < Nm.len n
   ·have HL := Lib.hid (show Nm.check n = 3 by rw [HS.out, if_pos hlen])
    have hlen' : 255 < (Nm.len n : Int) := by omega
    clear hlen
    go_wp2_with fail
    refine (nLen_any _ n _ (HV.out _ hb) HN.out).mono ?_
    rintro e w1 ⟨rfl, b1⟩
    go_wp2_with fail
    go_ret
    exact ⟨by rw [HL.out]; rfl, below5 hb b1⟩
   ·have HL := Lib.hid (show Nm.check n = 0 by rw [HS.out, if_neg hlen])
    have hlen' : (Nm.len n : Int) <= 255 := by omega
    clear hlen
    go_wp2_with fail
    refine (nLen_any _ n _ (HV.out _ hb) HN.out).mono ?_
    rintro e w1 ⟨rfl, b1⟩
    go_wp2_with fail
    go_ret
    exact ⟨by rw [HL.out]; rfl, below5 hb b1⟩
end Go.Proofs.YtgmbefolgppmdaaGreatDoor
end
section
namespace Go.Proofs.YtgmbefolgppmdaaGreatDoor
open Go.RowKit Go.Shelf
set_option maxRecDepth 100000
theorem Nm.words_append (a b : List (List UInt8)) : Nm.words (a ++ b) = Nm.words a ++ Nm.words b := by
 induction a with
 | nil => rfl
 | cons x r ih => simp only [List.cons_append, Nm.words, ih, List.append_assoc]
theorem Nm.words_take (n : List (List UInt8)) (k : Nat) (h : k < n.length) : Nm.words (n.take (k + 1)) = Nm.words (n.take k) ++ (Lb.text n[k] ++ [46]) := by
 rw [List.take_succ_eq_append_getElem h, Nm.words_append]; simp [Nm.words]
theorem Nm.words_len (n : List (List UInt8)) (h : ∀ x ∈ n, x.length <= 1000) : (Nm.words n).length <= 4001 * n.length := by
 induction n with
 | nil => simp [Nm.words]
 | cons x r ih =>
  have h1 := ih (fun y hy => h y (List.mem_cons_of_mem _ hy))
  have h2 := h x (List.mem_cons_self ..)
  have h3 := Lb.text_len x
  simp only [Nm.words, List.length_append, List.length_cons]; omega
theorem NB.words {n} (h : NB n) : (Nm.words n).length <= 4001000 := by
 have := Nm.words_len n h.2; have := h.1; omega
theorem Nm.text_pos {n : List (List UInt8)} (h : n ≠ []) : Nm.text n = Nm.words n := by simp [Nm.text, h]
set_option maxHeartbeats 1000000 in
theorem refNameText_any (v : Value) (n : List (List UInt8)) (w : World) (hv : Rd v n w) (hn : NB n) :
  Calls Tryz.prog 34 #[v] w (Gives (S (Nm.text n)) w) := by
 obtain ⟨o, cap, rfl, h1, h2⟩ := hv.form
 have HC := Lib.hid hv.cells
 have n1 : (n.length : Int) <= 1000 := by have := hn.1; omega
 have GA := Lib.hid (show ∀ k (h : k < n.length), n[k].length <= 1000 from fun k h => hn.get h)
 have GW := Lib.hid (show ∀ k, (Nm.words (n.take k)).length <= 4001000 from fun k => (hn.take k).words)
 clear hv hn
 by_cases h0 : n = []
 ·subst h0
  go_enter Tryz.func34, Tryz.ntmps34
  go_wp2
  go_ret
  exact ⟨rfl, Below.refl _ _⟩
 ·have HT := Lib.hid (Nm.text_pos h0)
  have hl0 : ((n.length : Int) == 0) = false := by
   rw [beq_eq_false_iff_ne]; have := List.length_pos_iff.2 h0; omega
  clear h0
  go_enter Tryz.func34, Tryz.ntmps34
  go_wp2
  go_loopw [3, 4] (fun s i wr => ∃ k : Nat, k <= n.length /\ s = S (Nm.words (n.take k)) /\ i = .int .i64 k /\ Below w.heap.size w wr) (fun _ i _ => n.length - (intOf i).toNat)
  case atStart => exact ⟨0, by omega, rfl, rfl, Below.refl _ _⟩
  case round =>
   obtain ⟨k, hk, rfl, rfl, hb⟩ := hrel
   by_cases hlt : k < n.length
   ·obtain ⟨x, rfl, e1⟩ := HC.out _ hb k hlt
    have g2 := GA.out k hlt
    have g3 := GW.out k
    have g4 := Lb.text_len n[k]
    have HS := Lib.hid (Nm.words_take n k hlt)
    go_wp2_with fail
    refine (refText_any n[k] _ (by omega)).mono ?_
    rintro e w1 ⟨rfl, b1⟩
    go_wp2_with fail
    exact ⟨⟨k + 1, by omega, by rw [HS.out, append_S, append_S, List.append_assoc], by go_num, below5 hb b1⟩, by simp [intOf]; omega⟩
   ·obtain rfl : k = n.length := by omega
    rw [List.take_length]
    go_wp2_with fail
    go_ret
    exact ⟨by rw [HT.out]; rfl, hb⟩
set_option maxHeartbeats 1000000 in
theorem nText_any (v : Value) (n : List (List UInt8)) (w : World) (hv : Rd v n w) (hn : NB n) :
  Calls Tryz.prog 30 #[v] w (Gives (S (Nm.text n)) w) := by
 obtain ⟨o, cap, rfl, h1, h2⟩ := hv.form
 have HC := Lib.hid hv.cells
 have n1 : (n.length : Int) <= 1000 := by have := hn.1; omega
 have GA := Lib.hid (show ∀ k (h : k < n.length), n[k].length <= 1000 from fun k h => hn.get h)
 have GW := Lib.hid (show ∀ k, (Nm.words (n.take k)).length <= 4001000 from fun k => (hn.take k).words)
 clear hv hn
 by_cases h0 : n = []
 ·subst h0
  go_enter Tryz.func30, Tryz.ntmps30
  go_wp2
  go_ret
  exact ⟨rfl, Below.refl _ _⟩
 ·have HT := Lib.hid (Nm.text_pos h0)
  have hl0 : ((n.length : Int) == 0) = false := by
   rw [beq_eq_false_iff_ne]; have := List.length_pos_iff.2 h0; omega
  clear h0
  go_enter Tryz.func30, Tryz.ntmps30
  go_wp2
  go_loopw [11] (fun i wr => ∃ k : Nat, k <= n.length /\ i = .int .i64 k /\ Bld w.heap.size w.heap.size (Nm.words (n.take k)) wr /\ Below w.heap.size w wr) (fun i _ => n.length - (intOf i).toNat)
  case atStart => exact ⟨0, by omega, rfl, Bld_new w, (Below.refl _ _).alloc (Nat.le_refl _) _⟩
  case round =>
   obtain ⟨k, hk, rfl, hbl, hb⟩ := hrel
   by_cases hlt : k < n.length
   ·obtain ⟨x, rfl, e1⟩ := HC.out _ hb k hlt
    have g2 := GA.out k hlt
    have g3 := GW.out k
    have g4 := Lb.text_len n[k]
    have HS := Lib.hid (Nm.words_take n k hlt)
    go_wp2_with fail
    refine (text_any n[k] _ (by omega)).mono ?_
    rintro e w1 ⟨rfl, b1⟩
    have hb1 := below5 hb b1
    go_wp2_with fail
    rw [append_S]
    refine (wstring w.heap.size w.heap.size _ (Lb.text n[k] ++ [46]) _ (builderF_below hbl b1) (by omega) (by simp; omega) (by have := hb1.size; omega)).mono ?_
    rintro e w2 ⟨rfl, hbl2, hb2, _⟩
    go_wp2_with fail
    exact ⟨⟨k + 1, by omega, by go_num, by rw [HS.out]; exact hbl2, hb1.trans hb2⟩, by simp [intOf]; omega⟩
   ·obtain rfl : k = n.length := by omega
    rw [List.take_length] at hbl
    go_wp2_with fail
    refine (Tryz.Builder_String_any_k w.heap.size w.heap.size (Nm.words n) _ hbl hb.size).mono ?_
    rintro e w1 ⟨rfl, _, hb1, _⟩
    go_wp2_with fail
    go_ret
    exact ⟨by rw [HT.out]; rfl, hb.trans hb1⟩
def Nm.isTo (a b : List (List UInt8)) (k : Nat) : Prop := k <= a.length /\ ∀ j (h : j < a.length) (h' : j < b.length), j < k -> a[j] = b[j]
theorem Nm.isTo.step {a b k} (h : Nm.isTo a b k) (hk : k < a.length) (hk' : k < b.length) (hl : a[k] = b[k]) : Nm.isTo a b (k + 1) := by
 refine ⟨hk, fun j h1 h2 hj => ?_⟩
 by_cases e : j < k
 ·exact h.2 j h1 h2 e
 ·obtain rfl : j = k := by omega
  exact hl
theorem Nm.isTo.done {a b k} (h : Nm.isTo a b k) (hk : ¬ k < a.length) (hl : a.length = b.length) : (a == b) = true := by
 rw [beq_iff_eq]
 apply List.ext_getElem hl
 intro j h1 h2
 exact h.2 j h1 h2 (by omega)
end Go.Proofs.YtgmbefolgppmdaaGreatDoor
end
section
namespace Go.Proofs.YtgmbefolgppmdaaGreatDoor
open Go.RowKit Go.Shelf
set_option maxRecDepth 100000
theorem Rd.of_row {R e v l W} (h : Row R e 1 v l.length (l.map S) W) : Rd v l W := Rd.of_strs h.strs
section
variable {F : Fence} {n : Nat}
theorem append_rd (R : Nat -> Prop) {ops : Array Oper} {rest : List Oper} {o : Oper} {a : Act} {w : World} {Q : Exit -> Act -> World -> Prop}
  (hg : o.guard = none) (s x : Operand) (t : TypeId) (ht : Tryz.prog.underlying t = some (.slice 9)) (hop : o.op = Op.call { callee := Callee.builtin Builtin.append, args := #[s, x], argTypes := #[t, t] })
  (v : Value) (k : Nat) (xs : List (List UInt8)) (hs : a.eval s = v) (hrow : Row R 9 1 v k (xs.map S) w) (u : Value) (l : List (List UInt8)) (hx : a.eval x = u) (hu : Rd u l w) (hb : k + l.length <= 100000) (hR : R w.heap.size)
  (hK : ∀ v' w', Row R 9 1 v' (k + l.length) ((xs ++ l).map S) w' -> w.grownBy w' v.ownBlock -> wpListIn F n Tryz.prog ops Q rest (a.put o.dst v') w') :
  wpListIn F n Tryz.prog ops Q (o :: rest) a w := by
 obtain ⟨i0, hi, hz0, hz1, hz2⟩ := info_parts Tryz.info_str
 obtain ⟨oa, cap, rfl, h1, h2, h3, h4⟩ := hu
 cases oa with
 | none =>
  obtain rfl : cap = 0 := h3 rfl
  have hl : l = [] := List.length_eq_zero_iff.1 (by omega)
  subst hl
  refine wpListIn_plain hg fun K hK' => ?_
  have hrun := run_append_owned_none (P := Tryz.prog) (w := w) 0 t o.type 9 i0 1 ht hi v k _ hrow.1
  unfold Oper.wpIn
  refine ⟨?_, ?_⟩
  ·simp [Oper.about, hop, resolve, Target.leads, Sem.run_pure]
  ·rw [Oper.semAt_plain F _ _ (by rw [hop]; intro c hc'; cases hc')]
   simp only [List.length_nil] at hx
   simp [execOp, hop, resolve, invoke, builtin, hs, hx, hrun, Result.andThen]
   exact hK' _ _ (hK _ _ (by simpa using hrow) ⟨rfl, rfl, rfl, Nat.le_refl _, fun _ _ _ => rfl⟩)
 | some ad =>
  refine append_in R hg s x t hop 9 i0 (.string ⟨#[]⟩) 1 16 ht hi hz0 hz1 hz2 rfl (by decide) v k (xs.map S) hs hrow ad l.length cap (l.map S) hx (by simp) (fun j u hj => ?_) (fun u hu => ?_) (by unfold maxLen; omega) (by omega) hR (fun v' w' hr hgr _ => hK v' w' (by rwa [List.map_append]) hgr)
  ·rw [List.getElem?_map] at hj
   obtain ⟨y, hy, rfl⟩ := Option.map_eq_some_iff.1 hj
   obtain ⟨hjl, rfl⟩ := List.getElem?_eq_some_iff.1 hy
   obtain ⟨a', ha, hc⟩ := h4 j hjl
   cases ha; exact hc
  ·obtain ⟨y, _, rfl⟩ := List.mem_map.1 hu
   rfl
end
theorem eql_nil_name (w : World) (o : Option Addr) (l c : Nat) : (binOp .eql 23 (.slice o l c) (.slice none 0 0)).run Tryz.prog w = .ok (.bool o.isNone) w := Lib.run_eql_slice_nil w _ _ o l c 0 0 Tryz.underlying23
attribute [local go_sem] eql_nil_name
abbrev Own (w : World) : Nat -> Prop := fun g => w.heap.size <= g
theorem row_one (x : List UInt8) (w : World) : Row (Own w) 9 1 (.slice (some ⟨w.heap.size, 0, none⟩) 1 1) 1 ([x].map S) (w.alloc (.cells #[S x] 9)) :=
 ⟨World.ownsRow_lit w #[S x] 1 (Nat.zero_le _) (by unfold maxLen; omega) rfl, fun g hg => by cases hg; exact Nat.le_refl _⟩
def RowOf (l : List (List UInt8)) (w : World) (e : Ending) (w' : World) : Prop := ∃ v, e = .returned v /\ Row (Own w) 9 1 v l.length (l.map S) w' /\ Below w.heap.size w w'
def RdOf (l : List (List UInt8)) (w : World) (e : Ending) (w' : World) : Prop := ∃ v, e = .returned v /\ Rd v l w' /\ Below w.heap.size w w'
theorem Row.rdOf {l w v w'} (h : Row (Own w) 9 1 v l.length (l.map S) w') : Rd v l w' := Rd.of_row h
theorem RowOf.mono {l w e w'} (h : RowOf l w e w') : RdOf l w e w' := by
 obtain ⟨v, h1, h2, h3⟩ := h; exact ⟨v, h1, h2.rdOf, h3⟩
end Go.Proofs.YtgmbefolgppmdaaGreatDoor
end
section
namespace Go.Proofs.YtgmbefolgppmdaaGreatDoor
open Go.RowKit Go.Shelf
set_option maxRecDepth 100000
structure Nm.CoAt (a b : List (List UInt8)) (k : Nat) : Prop where
 le : k <= a.length
 eq : Nm.common a b = Nm.common (a.drop k) b
theorem Nm.CoAt.start (a b : List (List UInt8)) : Nm.CoAt a b 0 := ⟨by omega, rfl⟩
theorem Nm.CoAt.go {a b : List (List UInt8)} {k} (h : Nm.CoAt a b k) (hk : k < a.length) (hu : Nm.under b (a.drop k) = false) : Nm.CoAt a b (k + 1) := by
 refine ⟨hk, ?_⟩
 rw [h.eq]
 rw [List.drop_eq_getElem_cons hk] at hu ⊢
 rw [Nm.common, if_neg (by rw [hu]; decide)]
theorem Nm.CoAt.at {a b : List (List UInt8)} {k} (h : Nm.CoAt a b k) (hu : Nm.under b (a.drop k) = true) : Nm.common a b = a.drop k := by
 rw [h.eq]
 rcases hd : a.drop k with _ | ⟨x, r⟩
 ·rfl
 ·rw [hd] at hu; rw [Nm.common, if_pos hu]
theorem Nm.CoAt.end {a b : List (List UInt8)} {k} (h : Nm.CoAt a b k) (hk : ¬ k < a.length) : Nm.common a b = a.drop k := by
 rw [h.eq, List.drop_of_length_le (by omega)]; rfl
end Go.Proofs.YtgmbefolgppmdaaGreatDoor
end
