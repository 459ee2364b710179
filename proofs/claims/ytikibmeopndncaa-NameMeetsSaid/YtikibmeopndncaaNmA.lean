/- Names: few, is, same, under. -/
import Derived.Test.YtikibmeopndncaaNmSpec
import Derived.Deep.QuietTactic
import Derived.BigQuiet
import Derived.TacticsInMore
import Derived.LoopIn
namespace Go.Proofs.Ytikibmeopndncaa
open Go.RowKit Go.Shelf
set_option maxRecDepth 100000

/-- what a contract that only reads says -/
abbrev Gives (v : Value) (w : World) (e : Ending) (w' : World) : Prop := e = .returned v ∧ Below w.heap.size w w'

def Nm.fewTo (n : List (List UInt8)) (k : Nat) : Prop := k ≤ n.length ∧ ∀ j (h : j < n.length), j < k → n[j].length ≤ 100
theorem Nm.fewTo.step {n k} (h : Nm.fewTo n k) (hk : k < n.length) (hl : n[k].length ≤ 100) : Nm.fewTo n (k + 1) := by
  refine ⟨hk, fun j h' hj => ?_⟩
  by_cases e : j < k
  · exact h.2 j h' e
  · obtain rfl : j = k := by omega
    exact hl
theorem Nm.fewTo.done {n k} (h : Nm.fewTo n k) (hk : ¬ k < n.length) (h1 : n.length ≤ 140) : Nm.few n = true := by
  unfold Nm.few
  simp only [Bool.and_eq_true, decide_eq_true_eq, List.all_eq_true]
  refine ⟨h1, fun x hx => ?_⟩
  obtain ⟨j, hj, rfl⟩ := List.mem_iff_getElem.1 hx
  exact h.2 j hj (by have := h.1; omega)
theorem Nm.few_long {n} (h : 140 < n.length) : Nm.few n = false := by unfold Nm.few; simp; omega
theorem Nm.few_not {n : List (List UInt8)} {k} (hk : k < n.length) (h : 100 < n[k].length) : Nm.few n = false := by
  rw [Bool.eq_false_iff]
  intro hf
  unfold Nm.few at hf
  simp only [Bool.and_eq_true, decide_eq_true_eq, List.all_eq_true] at hf
  have := hf.2 _ (List.getElem_mem hk); omega

set_option maxHeartbeats 1000000 in
theorem few_any (v : Value) (n : List (List UInt8)) (w : World) (hv : Rd v n w) :
    Calls Try.prog 19 #[v] w (Gives (.bool (Nm.few n)) w) := by
  have HV := Lib.hid hv
  obtain ⟨o, cap, rfl, h1, h2, h3, h4⟩ := hv
  unfold maxLen at h2
  clear h3
  have hcl : ∀ wr, Below w.heap.size w wr → ∀ j (h : j < n.length), ∃ a, o = some a ∧ wr.cell? (a.add j) = some (S n[j]) := fun wr hb j h => by
    obtain ⟨a, ha, hc⟩ := h4 j h; exact ⟨a, ha, (hb.cell (cell_lt hc)).trans hc⟩
  have HC := Lib.hid hcl
  clear hcl h4
  by_cases h140 : 140 < n.length
  · have HF := Lib.hid (Nm.few_long h140)
    have h140' : 140 < (n.length : Int) := by omega
    go_enter Try.func19, Try.ntmps19
    go_wp2
    go_ret
    exact ⟨by rw [HF.out]; rfl, Below.refl _ _⟩
  · have h140' : (n.length : Int) ≤ 140 := by omega
    go_enter Try.func19, Try.ntmps19
    go_wp2
    go_loopw [3] (fun i wr => ∃ k : Nat, Nm.fewTo n k ∧ i = .int .i64 k ∧ Below w.heap.size w wr) (fun i _ => n.length - (intOf i).toNat)
    case atStart => exact ⟨0, ⟨by omega, fun j _ h => by omega⟩, rfl, Below.refl _ _⟩
    case round =>
      obtain ⟨k, hto, rfl, hb⟩ := hrel
      by_cases hlt : k < n.length
      · obtain ⟨a, rfl, e1⟩ := HC.out _ hb k hlt
        by_cases hl : n[k].length ≤ 100
        · have HT := Lib.hid (hto.step hlt hl)
          have hl' : (n[k].length : Int) ≤ 100 := by omega
          clear hto hl
          go_wp2
          exact ⟨⟨k + 1, HT.out, by go_num, hb⟩, by simp [intOf]; omega⟩
        · have HF := Lib.hid (Nm.few_not hlt (by omega))
          have hl' : 100 < (n[k].length : Int) := by omega
          clear hto hl
          go_wp2
          go_ret
          exact ⟨by rw [HF.out]; rfl, hb⟩
      · have HF := Lib.hid (hto.done hlt (by omega))
        go_wp2
        go_ret
        exact ⟨by rw [HF.out]; rfl, hb⟩

/-! ### alike -/
theorem Nm.same_len {a b : List (List UInt8)} (h : a.length ≠ b.length) : Nm.same a b = false := by
  rw [Bool.eq_false_iff]; intro hs; apply h
  have := congrArg List.length (eq_of_beq hs)
  simpa [Nm.fold] using this
def Nm.sameTo (a b : List (List UInt8)) (k : Nat) : Prop := k ≤ a.length ∧ ∀ j (h : j < a.length) (h' : j < b.length), j < k → Lb.fold a[j] = Lb.fold b[j]
theorem Nm.sameTo.step {a b k} (h : Nm.sameTo a b k) (hk : k < a.length) (hk' : k < b.length) (hl : Lb.fold a[k] = Lb.fold b[k]) : Nm.sameTo a b (k + 1) := by
  refine ⟨hk, fun j h1 h2 hj => ?_⟩
  by_cases e : j < k
  · exact h.2 j h1 h2 e
  · obtain rfl : j = k := by omega
    exact hl
theorem Nm.sameTo.done {a b k} (h : Nm.sameTo a b k) (hk : ¬ k < a.length) (hl : a.length = b.length) : Nm.same a b = true := by
  unfold Nm.same Nm.fold
  rw [beq_iff_eq]
  apply List.ext_getElem (by simpa using hl)
  intro j h1 h2
  simp only [List.length_map] at h1 h2
  rw [List.getElem_map, List.getElem_map]
  exact h.2 j h1 h2 (by omega)
theorem Nm.same_not {a b : List (List UInt8)} {k} (hk : k < a.length) (hk' : k < b.length) (hl : Lb.fold a[k] ≠ Lb.fold b[k]) : Nm.same a b = false := by
  rw [Bool.eq_false_iff]; intro hs; apply hl
  have := eq_of_beq hs
  unfold Nm.fold at this
  have h2 := congrArg (fun l => l[k]?) this
  simpa [hk, hk'] using h2

/-- the cells of what is read, in any later world -/
theorem Rd.cells {o cap n} {w : World} (h : Rd (.slice o n.length cap) n w) : ∀ wr, Below w.heap.size w wr → ∀ j (h : j < n.length), ∃ a, o = some a ∧ wr.cell? (a.add j) = some (S n[j]) := fun wr hb j hj => by
  obtain ⟨o', cap', he, h1, h2, h3, h4⟩ := h
  cases he
  obtain ⟨a, ha, hc⟩ := h4 j hj; exact ⟨a, ha, (hb.cell (cell_lt hc)).trans hc⟩
theorem Rd.form {v n} {w : World} (h : Rd v n w) : ∃ o cap, v = .slice o n.length cap ∧ n.length ≤ cap ∧ cap ≤ 9223372036854775807 := by
  obtain ⟨o', cap', he, h1, h2, _⟩ := h
  exact ⟨_, _, he, h1, by unfold maxLen at h2; omega⟩

set_option maxHeartbeats 1000000 in
theorem refSame_any (v u : Value) (a b : List (List UInt8)) (w : World) (hv : Rd v a w) (hu : Rd u b w) (ha : NB a) (hb : NB b) :
    Calls Try.prog 35 #[v, u] w (Gives (.bool (Nm.same a b)) w) := by
  obtain ⟨o, cap, rfl, h1, h2⟩ := hv.form
  obtain ⟨o', cap', rfl, h1', h2'⟩ := hu.form
  have HC := Lib.hid hv.cells
  have HD := Lib.hid hu.cells
  have na : (a.length : Int) ≤ 1000 := by have := ha.1; omega
  have nb : (b.length : Int) ≤ 1000 := by have := hb.1; omega
  have GA := Lib.hid (show ∀ k (h : k < a.length), a[k].length ≤ 1000000 from fun k h => by have := ha.get h; omega)
  have GB := Lib.hid (show ∀ k (h : k < b.length), b[k].length ≤ 1000000 from fun k h => by have := hb.get h; omega)
  clear hv hu ha hb
  by_cases hab : a.length = b.length
  · have hab' : ((a.length : Int) != b.length) = false := by simp [hab]
    have HAB := Lib.hid hab
    clear hab
    refine (callsIn_wide (n := 0)).1 ?_
    refine callsIn_of_wp Try.func35 rfl trivial ?_ rfl
    simp only [Try.ntmps35, List.size_toArray, List.length_cons, List.length_nil, Nat.reduceAdd, Nat.reduceSub, Array.replicate_succ, Array.replicate_zero, List.push_toArray, List.append_toArray, List.nil_append, List.cons_append]
    gi_wp2
    gi_loopw [5] (fun i wr => ∃ k : Nat, Nm.sameTo a b k ∧ i = .int .i64 k ∧ Below w.heap.size w wr) (fun i _ => a.length - (intOf i).toNat)
    case atStart => exact ⟨0, ⟨by omega, fun j _ _ h => by omega⟩, rfl, Below.refl _ _⟩
    case round =>
      obtain ⟨k, hto, rfl, hb⟩ := hrel
      by_cases hlt : k < a.length
      · have hlt' : k < b.length := by have := HAB.out; omega
        obtain ⟨x, rfl, e1⟩ := HC.out _ hb k hlt
        obtain ⟨y, rfl, e2⟩ := HD.out _ hb k hlt'
        have g1 := GA.out k hlt
        have g2 := GB.out k hlt'
        obtain ⟨be, hbe⟩ : ∃ be, (Lb.fold a[k] == Lb.fold b[k]) = be := ⟨_, rfl⟩
        gi_wp2_with fail
        refine drawnH [3, 4, 8, 9, 10] (fun w' => w'.cell? (x.add k) = some (S a[k]) ∧ w'.cell? (y.add k) = some (S b[k])) 11 rfl (by kernel_rfl) ?_
        intro w' hw'
        have hS : w'.cell? (x.add k) = some (S a[k]) ∧ w'.cell? (y.add k) = some (S b[k]) := by subst hw'; exact ⟨e1, e2⟩
        have hb' : Below w.heap.size w w' := by subst hw'; exact hb.drew
        clear hw'
        refine takeP 0 (v := ?qv0) (fun _ => trivial) (by rfl) (by kernel_rfl) (.inl ⟨rfl, fun w1 _ => ?qy0⟩) ?_
        case qy0 => (go_simp; first | rfl | (rw [if_pos (by omega)]) | (rw [if_neg (by omega)]) | (rw [if_neg (by simp; omega)]))
        refine takeP 1 (v := ?qv1) (fun _ => trivial) (by rfl) (by kernel_rfl) (.inl ⟨rfl, fun w1 _ => ?qy1⟩) ?_
        case qy1 => (go_simp; first | rfl | (rw [if_pos (by omega)]) | (rw [if_neg (by omega)]) | (rw [if_neg (by simp; omega)]))
        refine takeP 2 (v := ?qv2) (fun _ => trivial) (by rfl) (by kernel_rfl) (.inl ⟨rfl, fun w1 _ => ?qy2⟩) ?_
        case qy2 => (go_simp; first | rfl | (rw [if_pos (by omega)]) | (rw [if_neg (by omega)]) | (rw [if_neg (by simp; omega)]))
        refine takeP 5 (v := ?qv5) (fun _ => trivial) (by rfl) (by kernel_rfl) (.inl ⟨rfl, fun w1 _ => ?qy5⟩) ?_
        case qy5 => (go_simp; first | rfl | (rw [if_pos (by omega)]) | (rw [if_neg (by omega)]) | (rw [if_neg (by simp; omega)]))
        refine takeP 6 (v := ?qv6) (fun _ => trivial) (by rfl) (by kernel_rfl) (.inl ⟨rfl, fun w1 _ => ?qy6⟩) ?_
        case qy6 => (go_simp; first | rfl | (rw [if_pos (by omega)]) | (rw [if_neg (by omega)]) | (rw [if_neg (by simp; omega)]))
        refine takeP 7 (v := ?qv7) (fun _ => trivial) (by rfl) (by kernel_rfl) (.inl ⟨rfl, fun w1 _ => ?qy7⟩) ?_
        case qy7 => (go_simp; first | rfl | (rw [if_pos (by omega)]) | (rw [if_neg (by omega)]) | (rw [if_neg (by simp; omega)]))
        refine takeH 3 (v := ?qv3) (fun _ => trivial) (by rfl) (by kernel_rfl) hS (.inl ⟨rfl, fun w1 ⟨c1, c2⟩ => ?qy3⟩) ?_
        case qy3 => (go_simp; first | rfl | (rw [if_pos (by omega)]) | (rw [if_neg (by omega)]) | (rw [if_neg (by simp; omega)]))
        refine takeH 8 (v := ?qv8) (fun _ => trivial) (by rfl) (by kernel_rfl) hS (.inl ⟨rfl, fun w1 ⟨c1, c2⟩ => ?qy8⟩) ?_
        case qy8 => (go_simp; first | rfl | (rw [if_pos (by omega)]) | (rw [if_neg (by omega)]) | (rw [if_neg (by simp; omega)]))
        refine oneH 4 (by rfl) (by kernel_rfl) (fun K hK => ?_)
        gi_wp2_with (gi_at_call 60; refine (callsIn_wide.2 (refFold_any a[k] _ g1)).mono ?_; rintro e w1 ⟨rfl, b1⟩)
        have f1 := (b1.cell (cell_lt hS.1)).trans hS.1
        have f2 := (b1.cell (cell_lt hS.2)).trans hS.2
        refine hK _ _ (fun _ => ⟨f1, f2⟩) ?_
        clear hK K
        refine oneH 9 (by rfl) (by kernel_rfl) (fun K hK => ?_)
        gi_wp2_with (gi_at_call 60; refine (callsIn_wide.2 (refFold_any b[k] _ g2)).mono ?_; rintro e w2 ⟨rfl, b2⟩)
        refine hK _ _ (fun _ => ⟨(b2.cell (cell_lt f1)).trans f1, (b2.cell (cell_lt f2)).trans f2⟩) ?_
        clear hK K
        have hb2 := below5 (below5 hb' b1) b2
        refine oneH 10 (by rfl) (by kernel_rfl) (fun K hK => ?_)
        gi_wp2_with fail
        refine hK _ _ (fun _ => ⟨(b2.cell (cell_lt f1)).trans f1, (b2.cell (cell_lt f2)).trans f2⟩) ?_
        clear hK K
        refine doneH (by kernel_rfl) ?_
        cases be with
        | true =>
          have HT := Lib.hid (hto.step hlt hlt' (eq_of_beq hbe))
          clear hto
          gi_wp2_with fail
          exact ⟨⟨k + 1, HT.out, by go_num, hb2⟩, by simp [intOf]; omega⟩
        | false =>
          have HF := Lib.hid (Nm.same_not hlt hlt' (by simpa using hbe))
          clear hto
          gi_wp2_with fail
          go_ret
          exact ⟨by rw [HF.out]; rfl, hb2⟩
      · have HF := Lib.hid (hto.done hlt HAB.out)
        gi_wp2
        go_ret
        exact ⟨by rw [HF.out]; rfl, hb⟩
  · have hab' : ((a.length : Int) != b.length) = true := by simp; omega
    have HF := Lib.hid (Nm.same_len hab)
    go_enter Try.func35, Try.ntmps35
    go_wp2
    go_ret
    exact ⟨by rw [HF.out]; rfl, Below.refl _ _⟩
end Go.Proofs.Ytikibmeopndncaa
