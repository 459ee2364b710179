/- Names: few, is, same, under. -/
import Derived.Test.YtjhibbjafjhhjaaDoorKNmSpec
import Derived.Test.YtjhibbjafjhhjaaDoorKRow
import Derived.Deep.QuietTactic
import Derived.BigQuiet
import Derived.TacticsInMore
import Derived.LoopIn
namespace Go.Proofs.YtjhibbjafjhhjaaDoor
open Go.RowKit Go.Shelf
set_option maxRecDepth 100000
abbrev Gives (v : Value) (w : World) (e : Ending) (w' : World) : Prop := e = .returned v /\ Below w.heap.size w w'
def Nm.fewTo (n : List (List UInt8)) (k : Nat) : Prop := k <= n.length /\ ∀ j (h : j < n.length), j < k -> n[j].length <= 100
theorem Nm.fewTo.step {n k} (h : Nm.fewTo n k) (hk : k < n.length) (hl : n[k].length <= 100) : Nm.fewTo n (k + 1) := by
 refine ⟨hk, fun j h' hj => ?_⟩
 by_cases e : j < k
 ·exact h.2 j h' e
 ·obtain rfl : j = k := by omega
  exact hl
theorem Nm.fewTo.done {n k} (h : Nm.fewTo n k) (hk : ¬ k < n.length) (h1 : n.length <= 140) : Nm.few n = true := by
 unfold Nm.few
 simp only [Bool.and_eq_true, decide_eq_true_eq, List.all_eq_true]
 refine ⟨h1, fun x hx => ?_⟩
 obtain ⟨j, hj, rfl⟩ := List.mem_iff_getElem.1 hx
 exact h.2 j hj (by have := h.1; omega)
theorem Nm.few_long {n} (h : 140 < n.length) : Nm.few n = false := by unfold Nm.few; simp; omega
theorem Nm.few_not {n : List (List UInt8)} {k} (hk : k < n.length) (h : 100 < n[k].length) : Nm.few n = false := by
 rw [Bool.eq_false_iff]
 intro hf
 unfold Nm.few at hf
 simp only [Bool.and_eq_true, decide_eq_true_eq, List.all_eq_true] at hf
 have := hf.2 _ (List.getElem_mem hk); omega
set_option maxHeartbeats 1000000 in
theorem few_any (v : Value) (n : List (List UInt8)) (w : World) (hv : Rd v n w) :
  Calls Tryd.prog 20 #[v] w (Gives (.bool (Nm.few n)) w) := by
 have HV := Lib.hid hv
 obtain ⟨o, cap, rfl, h1, h2, h3, h4⟩ := hv
 unfold maxLen at h2
 clear h3
 have hcl : ∀ wr, Below w.heap.size w wr -> ∀ j (h : j < n.length), ∃ a, o = some a /\ wr.cell? (a.add j) = some (S n[j]) := fun wr hb j h => by
  obtain ⟨a, ha, hc⟩ := h4 j h; exact ⟨a, ha, (hb.cell (cell_lt hc)).trans hc⟩
 have HC := Lib.hid hcl
 clear hcl h4
 by_cases h140 : 140 < n.length
 ·have HF := Lib.hid (Nm.few_long h140)
  have h140' : 140 < (n.length : Int) := by omega
  go_enter Tryd.func20, Tryd.ntmps20
  go_wp2
  go_ret
  exact ⟨by rw [HF.out]; rfl, Below.refl _ _⟩
 ·have h140' : (n.length : Int) <= 140 := by omega
  go_enter Tryd.func20, Tryd.ntmps20
  go_wp2
  go_loopw [3] (fun i wr => ∃ k : Nat, Nm.fewTo n k /\ i = .int .i64 k /\ Below w.heap.size w wr) (fun i _ => n.length - (intOf i).toNat)
  case atStart => exact ⟨0, ⟨by omega, fun j _ h => by omega⟩, rfl, Below.refl _ _⟩
  case round =>
   obtain ⟨k, hto, rfl, hb⟩ := hrel
   by_cases hlt : k < n.length
   ·obtain ⟨a, rfl, e1⟩ := HC.out _ hb k hlt
    by_cases hl : n[k].length <= 100
    ·have HT := Lib.hid (hto.step hlt hl)
     have hl' : (n[k].length : Int) <= 100 := by omega
     clear hto hl
     go_wp2
     exact ⟨⟨k + 1, HT.out, by go_num, hb⟩, by simp [intOf]; omega⟩
    ·have HF := Lib.hid (Nm.few_not hlt (by omega))
     have hl' : 100 < (n[k].length : Int) := by omega
     clear hto hl
     go_wp2
     go_ret
     exact ⟨by rw [HF.out]; rfl, hb⟩
   ·have HF := Lib.hid (hto.done hlt (by omega))
    go_wp2
    go_ret
    exact ⟨by rw [HF.out]; rfl, hb⟩
def Nm.sameTo (a b : List (List UInt8)) (k : Nat) : Prop := k <= a.length /\ ∀ j (h : j < a.length) (h' : j < b.length), j < k -> Lb.fold a[j] = Lb.fold b[j]
theorem Nm.sameTo.step {a b k} (h : Nm.sameTo a b k) (hk : k < a.length) (hk' : k < b.length) (hl : Lb.fold a[k] = Lb.fold b[k]) : Nm.sameTo a b (k + 1) := by
 refine ⟨hk, fun j h1 h2 hj => ?_⟩
 by_cases e : j < k
 ·exact h.2 j h1 h2 e
 ·obtain rfl : j = k := by omega
  exact hl
theorem Nm.sameTo.done {a b k} (h : Nm.sameTo a b k) (hk : ¬ k < a.length) (hl : a.length = b.length) : Nm.same a b = true := by
 unfold Nm.same Nm.fold
 rw [beq_iff_eq]
 apply List.ext_getElem (by simpa using hl)
 intro j h1 h2
 simp only [List.length_map] at h1 h2
 rw [List.getElem_map, List.getElem_map]
 exact h.2 j h1 h2 (by omega)
theorem Rd.cells {o cap n} {w : World} (h : Rd (.slice o n.length cap) n w) : ∀ wr, Below w.heap.size w wr -> ∀ j (h : j < n.length), ∃ a, o = some a /\ wr.cell? (a.add j) = some (S n[j]) := fun wr hb j hj => by
 obtain ⟨o', cap', he, h1, h2, h3, h4⟩ := h
 cases he
 obtain ⟨a, ha, hc⟩ := h4 j hj; exact ⟨a, ha, (hb.cell (cell_lt hc)).trans hc⟩
theorem Rd.form {v n} {w : World} (h : Rd v n w) : ∃ o cap, v = .slice o n.length cap /\ n.length <= cap /\ cap <= 9223372036854775807 := by
 obtain ⟨o', cap', he, h1, h2, _⟩ := h
 exact ⟨_, _, he, h1, by unfold maxLen at h2; omega⟩
end Go.Proofs.YtjhibbjafjhhjaaDoor
