/- Names: how long, whether they may be, a star ahead. -/
import Derived.Test.YtikibmeopndncaaNmB
namespace Go.Proofs.Ytikibmeopndncaa
open Go.RowKit Go.Shelf
set_option maxRecDepth 100000
attribute [local go_sem] Oper.semAt_some

theorem Nm.len_append (a b : List (List UInt8)) : Nm.len (a ++ b) + 1 = Nm.len a + Nm.len b := by
  induction a with
  | nil => simp [Nm.len]; omega
  | cons x r ih => simp only [List.cons_append, Nm.len]; omega
theorem Nm.len_take (n : List (List UInt8)) (k : Nat) (h : k < n.length) : Nm.len (n.take (k + 1)) = Nm.len (n.take k) + 1 + n[k].length := by
  have := Nm.len_append (n.take k) [n[k]]
  rw [← List.take_succ_eq_append_getElem h] at this
  simp only [Nm.len] at this; omega
theorem Nm.len_drop (n : List (List UInt8)) (k : Nat) (h : k < n.length) : Nm.len (n.drop k) = Nm.len (n.drop (k + 1)) + 1 + n[k].length := by
  rw [List.drop_eq_getElem_cons h]; simp only [Nm.len]; omega

/-! ### how long -/
set_option maxHeartbeats 1000000 in
theorem refLen_any (v : Value) (n : List (List UInt8)) (w : World) (hv : Rd v n w) (hn : NB n) :
    Calls Try.prog 25 #[v] w (Gives (.int .i64 (Nm.len n)) w) := by
  obtain ⟨o, cap, rfl, h1, h2⟩ := hv.form
  have HC := Lib.hid hv.cells
  have n1 : (n.length : Int) ≤ 1000 := by have := hn.1; omega
  have GN := Lib.hid (show ∀ k, Nm.len (n.take k) ≤ 1001001 from fun k => (hn.take k).len)
  have GA := Lib.hid (show ∀ k (h : k < n.length), n[k].length ≤ 1000 from fun k h => hn.get h)
  clear hv hn
  go_enter Try.func25, Try.ntmps25
  go_wp2
  go_loopw [3, 4] (fun s i wr => ∃ k : Nat, k ≤ n.length ∧ s = .int .i64 (Nm.len (n.take k)) ∧ i = .int .i64 k ∧ Below w.heap.size w wr) (fun _ i _ => n.length - (intOf i).toNat)
  case atStart => exact ⟨0, by omega, rfl, rfl, Below.refl _ _⟩
  case round =>
    obtain ⟨k, hk, rfl, rfl, hb⟩ := hrel
    by_cases hlt : k < n.length
    · obtain ⟨x, rfl, e1⟩ := HC.out _ hb k hlt
      have g1 := GN.out k
      have g2 := GA.out k hlt
      have HT := Lib.hid (Nm.len_take n k hlt)
      go_wp2_with fail
      exact ⟨⟨k + 1, by omega, by rw [HT.out]; go_num, by go_num, hb⟩, by simp [intOf]; omega⟩
    · obtain rfl : k = n.length := by omega
      go_wp2_with fail
      go_ret
      exact ⟨by rw [List.take_length]; rfl, hb⟩

/-- the closure that goes over a name's labels from the root on -/
def lblY (n : List (List UInt8)) (k : Nat) (_ : World) (v : Array Value) (k' : Nat) : Prop := ∃ h : k < n.length, v = #[S (n[n.length - 1 - k]'(by omega))] ∧ k' = k + 1
def lblPre (B0 b : Nat) (o : Option Addr) (cap : Nat) (n : List (List UInt8)) (W : World) : Prop :=
  W.cell? ⟨b, 0, none⟩ = some (.slice o n.length cap) ∧ ∀ j (h : j < n.length), ∃ a : Addr, o = some a ∧ a.block < B0 ∧ W.cell? (a.add j) = some (S n[j])
def keepsTo (B0 b : Nat) (A W : World) : Prop := sameCell b A W ∧ ∀ p : Addr, p.block < B0 → W.cell? p = A.cell? p
theorem keepsTo.trans {B0 b : Nat} (A B C : World) (h : keepsTo B0 b A B) (k : keepsTo B0 b B C) : keepsTo B0 b A C := ⟨sameCell.trans A B C h.1 k.1, fun p hp => (k.2 p hp).trans (h.2 p hp)⟩
theorem keepsTo.put {B0 b L : Nat} (hL : B0 ≤ L) (hb : b ≠ L) (A : World) (o : Obj) : keepsTo B0 b A (A.putObj L o) := ⟨sameCell.put (by omega) A o, fun p hp => World.cell?_of_block (World.putObj_heap_other (by omega))⟩
theorem add_block (a : Addr) (j : Nat) : (a.add j).block = a.block := by unfold Addr.add; split <;> rfl
theorem lblPre.kept {B0 b o cap n A W} (h : lblPre B0 b o cap n A) (hk : keepsTo B0 b A W) : lblPre B0 b o cap n W :=
  ⟨Eq.trans hk.1 h.1, fun j hj => by obtain ⟨a, h1, h2, h3⟩ := h.2 j hj; exact ⟨a, h1, h2, (hk.2 _ (by rw [add_block]; exact h2)).trans h3⟩⟩

theorem labels_any (o : Option Addr) (l cap : Nat) (w : World) :
    Calls Try.prog 58 #[.slice o l cap] w fun e w' => e = .returned (.func (.func 90) #[] #[.pointer (some ⟨w.heap.size, 0, none⟩)]) ∧ w.alloc (.cells #[.slice o l cap] 44) = w' := by
  go_enter Try.func58, Try.ntmps58
  go_wp2
  go_ret
  exact ⟨rfl, rfl⟩

set_option maxHeartbeats 1000000 in
theorem labels1_iter (B0 b : Nat) (o : Option Addr) (cap : Nat) (n : List (List UInt8)) (h1 : n.length ≤ cap) (hn : n.length ≤ 1000) :
    Iter Try.prog 90 #[.pointer (some ⟨b, 0, none⟩)] (lblPre B0 b o cap n) (fun A B => A = B) (keepsTo B0 b) (lblY n) 0 (fun k => k = n.length) := by
  intro l J Jx W hpre _ _ hY h0
  refine callsIn_of_wp Try.func90 rfl trivial ?_ rfl
  simp only [Try.ntmps90, List.size_toArray, List.length_cons, List.length_nil, Nat.reduceAdd, Nat.reduceSub, Array.replicate_succ, Array.replicate_zero, List.push_toArray, List.append_toArray, List.nil_append, List.cons_append]
  have HPre := Lib.hid hpre
  have hc := hpre.1
  have n1 : (n.length : Int) ≤ 1000 := by omega
  clear hpre
  gi_wp2
  gi_loopw [3] (fun p wr => ∃ k : Nat, k ≤ n.length ∧ p = .int .i64 ((n.length : Int) - 1 - k) ∧ J k wr ∧ lblPre B0 b o cap n wr) (fun p _ => (intOf p + 1).toNat)
  case atStart => exact ⟨0, by omega, by go_num, h0, HPre.out⟩
  case round =>
    obtain ⟨k, hk, rfl, hJ, hc⟩ := hrel
    by_cases hlt : k < n.length
    · obtain ⟨fn, tmps, assign, body, hy, hR⟩ := hY k (k + 1) _ wr hJ ⟨hlt, rfl, rfl⟩
      have HPre' := Lib.hid hc
      obtain ⟨c1, c2⟩ := hc
      obtain ⟨a, rfl, c3, c4⟩ := c2 (n.length - 1 - k) (by omega)
      clear c2
      have hix : ((n.length : Int) - 1 - k) = ((n.length - 1 - k : Nat) : Int) := by omega
      gi_wp2
      refine hR.mono ?_
      rintro e W3 (⟨rfl, hJ3, hk3⟩ | ⟨rfl, hJx3⟩)
      · have hc3 := HPre'.out.kept hk3
        gi_wp2
        go_roundw
        case rel => exact ⟨k + 1, by omega, by go_num, hJ3, hc3⟩
        case measure => simp [intOf]; omega
      · gi_wp2
        refine bodyPost_ret (results_none rfl _ _ _) rfl ?_
        exact ⟨⟨_, rfl⟩, .inr hJx3⟩
    · obtain rfl : n.length = k := by omega
      gi_wp2
      go_end0
      exact ⟨⟨_, rfl⟩, .inl ⟨_, rfl, hJ⟩⟩

/-- memory between two rounds of Len -/
def LenI (B : Nat) (w : World) (o : Option Addr) (cap : Nat) (n : List (List UInt8)) (k : Nat) (W : World) : Prop :=
  k ≤ n.length ∧ Box B 3 (.int .i64 (Nm.len (n.drop (n.length - k)))) W ∧ Box (B + 1) 44 (.slice o n.length cap) W ∧ Below B w W ∧ B + 2 ≤ W.heap.size
theorem LenI.put {B w o cap n L} (hL : B ≤ L) (k : Nat) (A : World) (r : Loop) (ob : Obj) (h : LenI B w o cap n k A) (hr : A.heap[L]? = some (.loop r)) : LenI B w o cap n k (A.putObj L ob) := by
  obtain ⟨h0, h1, h2, h3, h4⟩ := h
  exact ⟨h0, h1.put hr ob, h2.put hr ob, below_put h3 hL hr (by omega) ob, by simpa using h4⟩
theorem LenI.alloc {B w o cap n k W} (h : LenI B w o cap n k W) (ob : Obj) : LenI B w o cap n k (W.alloc ob) := by
  obtain ⟨h0, h1, h2, h3, h4⟩ := h
  exact ⟨h0, h1.alloc ob, h2.alloc ob, h3.alloc (by omega) ob, by simp; omega⟩

set_option maxHeartbeats 1000000 in
theorem nLen_any (v : Value) (n : List (List UInt8)) (w : World) (hv : Rd v n w) (hn : NB n) :
    Calls Try.prog 24 #[v] w (Gives (.int .i64 (Nm.len n)) w) := by
  obtain ⟨o, cap, rfl, h1, h2⟩ := hv.form
  have HC := Lib.hid hv.cells
  have hn1 := hn.1
  have GN := Lib.hid (show ∀ k, Nm.len (n.drop k) ≤ 1001001 from fun k => (hn.drop k).len)
  have GA := Lib.hid (show ∀ k (h : k < n.length), n[k].length ≤ 1000 from fun k h => hn.get h)
  have hpr : ∀ W, Below w.heap.size w W → Box (w.heap.size + 1) 44 (.slice o n.length cap) W → lblPre w.heap.size (w.heap.size + 1) o cap n W := fun W hb hx =>
    ⟨hx.cell, fun j hj => by
      obtain ⟨a, ha, hc⟩ := hv.cells w (Below.refl _ _) j hj
      have hlt := cell_lt hc
      exact ⟨a, ha, by rwa [add_block] at hlt, (hb.cell hlt).trans hc⟩⟩
  have HPR := Lib.hid hpr
  clear hv hn hpr
  refine (callsIn_wide (n := 0)).1 ?_
  refine callsIn_of_wp_marks Try.func24 rfl trivial ?_ rfl
  simp only [Try.ntmps24, List.size_toArray, List.length_cons, List.length_nil, Nat.reduceAdd, Nat.reduceSub, Array.replicate_succ, Array.replicate_zero, List.push_toArray, List.append_toArray, List.nil_append, List.cons_append]
  gi_wp2_with (gi_at_call 58; refine (callsIn_wide.2 (labels_any _ _ _ _)).mono ?_; rintro e w' ⟨rfl, rfl⟩)
  obtain ⟨W0, hW0, hM0, hs0⟩ : ∃ W0, ((w.alloc (.cells #[.int .i64 1] 3)).alloc (.cells #[.slice o n.length cap] 44)) = W0 ∧ LenI w.heap.size w o cap n 0 W0 ∧ W0.heap.size = w.heap.size + 2 := by
    refine ⟨_, rfl, ⟨by omega, ?_, ?_, ((Below.refl _ _).alloc (by simp) _).alloc (by simp) _, by simp⟩, by simp⟩
    · rw [Nat.sub_zero, List.drop_length]
      exact (Box.new w 3 (.int .i64 1)).alloc _
    · have := Box.new (w.alloc (.cells #[.int .i64 1] 3)) 44 (.slice o n.length cap)
      rwa [World.size_alloc] at this
  rw [hW0]
  clear hW0
  refine rf_outer rfl (enters_of Try.func90 (by kernel_rfl) rfl) (labels1_iter w.heap.size (w.heap.size + 1) o cap n h1 hn1)
    (fun A B h => by subst h; exact KeepsOthers.refl _) keepsTo.trans (fun A o => keepsTo.put (by omega) (by omega) A o)
    (fun _ _ _ _ ⟨_, h, _⟩ => by subst h; rfl)
    (LenI w.heap.size w o cap n) (fun _ _ => False) (fun _ _ _ h e => by subst e; exact h) (fun _ _ _ h _ => h)
    (LenI.put (by omega)) (fun _ _ _ _ h _ => h)
    (fun r => ?start) (fun r => ?pre) ?round ?done (fun _ _ h => h.elim)
  case start => exact (hM0.alloc _).alloc _
  case pre => exact HPR.out _ ((hM0.alloc _).alloc _).2.2.2.1 ((hM0.alloc _).alloc _).2.2.1
  case round =>
    rintro l k k' v W hI ⟨hk, rfl, rfl⟩
    gi_wp2
    refine rfNext_same ⟨Eq.refl _, fun _ _ => rfl⟩ hI (LenI.put (by omega)) ?_
    clear hI hM0
    rintro W r rfl hr ⟨g0, g1, g2, g3, g4⟩
    have hct := g1.cell
    have hft := g1.frozen
    have b1 := GN.out (n.length - k)
    have b2 := GA.out (n.length - 1 - k) (by omega)
    have HD := Lib.hid (Nm.len_drop n (n.length - 1 - k) (by omega))
    gi_wp2
    have hx := g2.setOther (c := w.heap.size) (o := 0) (by omega) (.int .i64 ((Nm.len (n.drop (n.length - k)) : Int) + (1 + (n[n.length - 1 - k].length : Int))))
    have hz := g1.set (.int .i64 ((Nm.len (n.drop (n.length - k)) : Int) + (1 + (n[n.length - 1 - k].length : Int))))
    refine ⟨KeepsOthers.setCell _ _ _, ⟨g2.same hx, fun p hp => World.cell?_of_block (Below.heap_setCell _ _ _ _ (by simp; omega))⟩, by omega, ?_, hx, g3.setCell (p := ⟨w.heap.size, 0, none⟩) (Nat.le_refl _) _, by simpa [World.setCell] using g4⟩
    have e : n.length - (k + 1) = n.length - 1 - k := by omega
    have e2 : n.length - 1 - k + 1 = n.length - k := by omega
    rw [e, HD.out, e2]
    rwa [show (((Nm.len (n.drop (n.length - k)) + 1 + n[n.length - 1 - k].length : Nat)) : Int) = (Nm.len (n.drop (n.length - k)) : Int) + (1 + (n[n.length - 1 - k].length : Int)) by omega]
  case done =>
    rintro k W rfl ⟨g0, g1, g2, g3, g4⟩ hKd
    rw [Nat.sub_self, List.drop_zero] at g1
    have hct := g1.cell
    rw [hs0] at hKd ⊢
    gi_wp2
    refine ⟨by simp, .inl ⟨_, _, rfl, run_takeDeferred hKd, ?_⟩⟩
    exact ⟨_, results_tmp rfl _ _ _, rfl, below_putD g3 (by omega) (by omega) _⟩
end Go.Proofs.Ytikibmeopndncaa
