/- Plain functions of names. -/
import Derived.Test.YtgmbefolgppmdaaGreatDoorKLabSpec2
import Derived.Deep.QuietTactic
import Derived.BigQuiet
import Derived.TacticsInMore
import Derived.LoopIn
section
namespace Go.Proofs.YtgmbefolgppmdaaGreatDoor
open Go.RowKit Go.Shelf
namespace Nm
def fold (n : List (List UInt8)) : List (List UInt8) := n.map Lb.fold
def len : List (List UInt8) -> Nat
 | [] => 1
 | l :: r => 1 + l.length + len r
def check0 : List (List UInt8) -> Int
 | [] => 0
 | l :: r => if Lb.check l.length = 0 then check0 r else Lb.check l.length
def check (n : List (List UInt8)) : Int := if check0 n = 0 then (if 255 < len n then 3 else 0) else check0 n
def words : List (List UInt8) -> List UInt8
 | [] => []
 | l :: r => Lb.text l ++ 46 :: words r
def text (n : List (List UInt8)) : List UInt8 := if n = [] then [46] else words n
def same (a b : List (List UInt8)) : Bool := fold a == fold b
def under (n z : List (List UInt8)) : Bool := decide (z.length <= n.length) && same (n.drop (n.length - z.length)) z
def cmpR : List (List UInt8) -> List (List UInt8) -> Int
 | [], [] => 0
 | [], _ :: _ => -1
 | _ :: _, [] => 1
 | x :: a, y :: b => if cmpL x y = 0 then cmpR a b else cmpL x y
def cmp (a b : List (List UInt8)) : Int := cmpR a.reverse b.reverse
def common (a b : List (List UInt8)) : List (List UInt8) := match a with
 | [] => []
 | x :: r => if under b (x :: r) then x :: r else common r b
def wild (n : List (List UInt8)) : Bool := match n with
 | [] => false
 | x :: _ => x == [42]
def swap (n f t : List (List UInt8)) : List (List UInt8) × Int :=
 if under n f = true then (if check (n.take (n.length - f.length) ++ t) = 0 then (n.take (n.length - f.length) ++ t, 0) else ([], 7)) else ([], 12)
def partsF : List (List UInt8) -> Except Int (List (List UInt8) × Bool)
 | [] => .ok ([], false)
 | p :: r => if p = [] /\ r = [] then .ok ([], true) else if (Lb.parse p).2 = 0 then (partsF r).map (fun x => ((Lb.parse p).1 :: x.1, x.2)) else .error (Lb.parse p).2
def parts (s : List UInt8) : Except Int (List (List UInt8) × Bool) := match Lb.split s with
 | none => .error 2
 | some l => partsF l
def fin (n : List (List UInt8)) : List (List UInt8) × Int := if check n = 0 then (n, 0) else ([], check n)
def parse (s : List UInt8) (origin : List (List UInt8)) : List (List UInt8) × Int :=
 if s = [64] then (origin, 0) else if s = [46] then ([], 0) else if s = [] then ([], 8)
 else match parts s with
  | .error e => ([], e)
  | .ok (n, true) => fin n
  | .ok (n, false) => fin (n ++ origin)
def parent (n : List (List UInt8)) : List (List UInt8) := n.drop 1
def few (n : List (List UInt8)) : Bool := decide (n.length <= 140) && n.all fun l => decide (l.length <= 100)
theorem len_le (n : List (List UInt8)) : ∀ (b : Nat), (∀ x ∈ n, x.length <= b) -> len n <= 1 + n.length * (b + 1) := by
 induction n with
 | nil => intro b _; simp [len]
 | cons x r ih =>
  intro b h
  have h1 := ih b (fun y hy => h y (List.mem_cons_of_mem _ hy))
  have h2 := h x (List.mem_cons_self ..)
  simp only [len, List.length_cons, Nat.add_mul]; omega
end Nm
def NB (n : List (List UInt8)) : Prop := n.length <= 1000 /\ ∀ x ∈ n, x.length <= 1000
theorem NB.get {n k} (h : NB n) (hk : k < n.length) : n[k].length <= 1000 := h.2 _ (List.getElem_mem hk)
theorem NB.drop {n} (h : NB n) (k : Nat) : NB (n.drop k) := ⟨by have := h.1; simp; omega, fun x hx => h.2 x (List.mem_of_mem_drop hx)⟩
theorem NB.take {n} (h : NB n) (k : Nat) : NB (n.take k) := ⟨by have := h.1; simp; omega, fun x hx => h.2 x (List.mem_of_mem_take hx)⟩
theorem NB.few {n} (h : Nm.few n = true) : NB n := by
 unfold Nm.few at h
 simp only [Bool.and_eq_true, decide_eq_true_eq, List.all_eq_true] at h
 exact ⟨by omega, fun x hx => by have := h.2 x hx; omega⟩
theorem NB.fold {n} (h : NB n) : NB (Nm.fold n) := ⟨by simpa [Nm.fold] using h.1, fun x hx => by
 simp only [Nm.fold, List.mem_map] at hx; obtain ⟨y, hy, rfl⟩ := hx; rw [fold_length]; exact h.2 y hy⟩
theorem NB.len {n} (h : NB n) : Nm.len n <= 1001001 := by
 have := Nm.len_le n 1000 h.2
 have h1 := h.1
 have : n.length * 1001 <= 1000 * 1001 := Nat.mul_le_mul_right _ h1
 omega
def Rd (v : Value) (l : List (List UInt8)) (W : World) : Prop :=
 ∃ o cap, v = .slice o l.length cap /\ l.length <= cap /\ cap <= maxLen /\ (o = none -> cap = 0) /\ ∀ j (h : j < l.length), ∃ a, o = some a /\ W.cell? (a.add j) = some (S l[j])
theorem Rd.kept {v l} {W W' : World} (h : Rd v l W) (hk : ∀ p : Addr, p.block < W.heap.size -> W'.cell? p = W.cell? p) : Rd v l W' := by
 obtain ⟨o, cap, h1, h2, h3, h4, h5⟩ := h
 refine ⟨o, cap, h1, h2, h3, h4, fun j hj => ?_⟩
 obtain ⟨a, ha, hc⟩ := h5 j hj
 exact ⟨a, ha, (hk _ (cell_lt hc)).trans hc⟩
theorem Rd.below {v l} {W W' : World} (h : Rd v l W) (hb : Below W.heap.size W W') : Rd v l W' := h.kept fun _p hp => hb.cell hp
theorem Rd.heap {v l} {W W' : World} (h : Rd v l W) (hb : W'.heap = W.heap) : Rd v l W' := h.kept fun p _ => by unfold World.cell?; rw [hb]
theorem Rd.nil (W : World) : Rd (.slice none 0 0) [] W := ⟨none, 0, rfl, by simp, by unfold maxLen; omega, fun _ => rfl, fun j h => by simp at h⟩
theorem Rd.of_strs {v l} {W : World} (h : RdStrs v l W) : Rd v l W := by
 rcases h with ⟨rfl, rfl⟩ | ⟨g, off, cap, rfl, h1, h2, h3, h4⟩
 ·exact Rd.nil W
 ·refine ⟨_, _, rfl, h1, h2, (fun h => by cases h), fun j hj => ⟨_, rfl, ?_⟩⟩
  have := h4 j hj
  unfold Addr.add
  split
  ·rename_i e; subst e; exact this
  ·exact this
theorem add_add (a : Addr) (i j : Nat) (h : 0 < i) : (a.add i).add j = a.add (i + j) := by
 unfold Addr.add
 rw [if_neg (show ¬ i = 0 by omega), if_neg (show ¬ i + j = 0 by omega)]
 split
 ·rename_i e; subst e; rfl
 ·simp [Nat.add_assoc]
theorem add_zero' (a : Addr) : a.add 0 = a := rfl
theorem add_add' (a : Addr) (i j : Nat) : (a.add i).add j = a.add (i + j) := by
 rcases Nat.eq_zero_or_pos i with rfl | h
 ·rw [add_zero', Nat.zero_add]
 ·exact add_add a i j h
theorem Rd.sub {o l cap} {W : World} (h : Rd (.slice o l.length cap) l W) (i j c : Nat) (hi : i <= j) (hj : j <= l.length) (hc : c <= cap - i) (hcl : j - i <= c) (o' : Option Addr) (ho : o' = o.map (·.add i)) : Rd (.slice o' (j - i) c) ((l.drop i).take (j - i)) W := by
 obtain ⟨o1, cap1, h1, h2, h3, h4, h5⟩ := h
 cases h1
 have hl : ((l.drop i).take (j - i)).length = j - i := by simp; omega
 refine ⟨o', c, by rw [hl], by rw [hl]; omega, by omega, fun e => ?_, fun k hk => ?_⟩
 ·rw [ho] at e
  have : o = none := by cases o with
   | none => rfl
   | some a => cases e
  have := h4 this; omega
 ·rw [hl] at hk
  obtain ⟨a, rfl, hc⟩ := h5 (i + k) (by omega)
  refine ⟨a.add i, by rw [ho]; rfl, ?_⟩
  rw [add_add', hc]
  simp
theorem Rd.empty (o : Option Addr) (cap : Nat) (hc : cap = 0) (W : World) : Rd (.slice o 0 cap) [] W := ⟨o, cap, rfl, by simp, by unfold maxLen; omega, fun _ => hc, fun j h => by simp at h⟩
theorem Rd.tail {o l cap} {W : World} (h : Rd (.slice o l.length cap) l W) (i : Nat) (hi : i <= l.length) : Rd (.slice (o.map (·.add i)) (l.length - i) (cap - i)) (l.drop i) W := by
 have h' := h.sub i l.length (cap - i) hi (Nat.le_refl _) (Nat.le_refl _) (by obtain ⟨_, _, e, h1, _⟩ := h; cases e; omega) _ rfl
 rwa [List.take_of_length_le (by simp)] at h'
end Go.Proofs.YtgmbefolgppmdaaGreatDoor
end
section
namespace Go.Proofs.YtgmbefolgppmdaaGreatDoor
open Go.RowKit Go.Shelf
set_option maxRecDepth 100000
abbrev Gives (v : Value) (w : World) (e : Ending) (w' : World) : Prop := e = .returned v /\ Below w.heap.size w w'
def Nm.fewTo (n : List (List UInt8)) (k : Nat) : Prop := k <= n.length /\ ∀ j (h : j < n.length), j < k -> n[j].length <= 100
theorem Nm.fewTo.step {n k} (h : Nm.fewTo n k) (hk : k < n.length) (hl : n[k].length <= 100) : Nm.fewTo n (k + 1) := by
 refine ⟨hk, fun j h' hj => ?_⟩
 by_cases e : j < k
 ·exact h.2 j h' e
 ·obtain rfl : j = k := by omega
  exact hl
theorem Nm.fewTo.done {n k} (h : Nm.fewTo n k) (hk : ¬ k < n.length) (h1 : n.length <= 140) : Nm.few n = true := by
 unfold Nm.few
 simp only [Bool.and_eq_true, decide_eq_true_eq, List.all_eq_true]
 refine ⟨h1, fun x hx => ?_⟩
 obtain ⟨j, hj, rfl⟩ := List.mem_iff_getElem.1 hx
 exact h.2 j hj (by have := h.1; omega)
theorem Nm.few_long {n} (h : 140 < n.length) : Nm.few n = false := by unfold Nm.few; simp; omega
theorem Nm.few_not {n : List (List UInt8)} {k} (hk : k < n.length) (h : 100 < n[k].length) : Nm.few n = false := by
 rw [Bool.eq_false_iff]
 intro hf
 unfold Nm.few at hf
 simp only [Bool.and_eq_true, decide_eq_true_eq, List.all_eq_true] at hf
 have := hf.2 _ (List.getElem_mem hk); omega
set_option maxHeartbeats 1000000 in
theorem few_any (v : Value) (n : List (List UInt8)) (w : World) (hv : Rd v n w) :
  Calls Tryz.prog 16 #[v] w (Gives (.bool (Nm.few n)) w) := by
 have HV := Lib.hid hv
 obtain ⟨o, cap, rfl, h1, h2, h3, h4⟩ := hv
 unfold maxLen at h2
 clear h3
 have hcl : ∀ wr, Below w.heap.size w wr -> ∀ j (h : j < n.length), ∃ a, o = some a /\ wr.cell? (a.add j) = some (S n[j]) := fun wr hb j h => by
  obtain ⟨a, ha, hc⟩ := h4 j h; exact ⟨a, ha, (hb.cell (cell_lt hc)).trans hc⟩
 have HC := Lib.hid hcl
 clear hcl h4
 by_cases h140 : 140 < n.length
 ·have HF := Lib.hid (Nm.few_long h140)
  have h140' : 140 < (n.length : Int) := by omega
  go_enter Tryz.func16, Tryz.ntmps16
  go_wp2
  go_ret
  exact ⟨by rw [HF.out]; rfl, Below.refl _ _⟩
 ·have h140' : (n.length : Int) <= 140 := by omega
  go_enter Tryz.func16, Tryz.ntmps16
  go_wp2
  go_loopw [3] (fun i wr => ∃ k : Nat, Nm.fewTo n k /\ i = .int .i64 k /\ Below w.heap.size w wr) (fun i _ => n.length - (intOf i).toNat)
  case atStart => exact ⟨0, ⟨by omega, fun j _ h => by omega⟩, rfl, Below.refl _ _⟩
  case round =>
   obtain ⟨k, hto, rfl, hb⟩ := hrel
   by_cases hlt : k < n.length
   ·obtain ⟨a, rfl, e1⟩ := HC.out _ hb k hlt
    by_cases hl : n[k].length <= 100
    ·have HT := Lib.hid (hto.step hlt hl)
     have hl' : (n[k].length : Int) <= 100 := by omega
     clear hto hl
     go_wp2
     exact ⟨⟨k + 1, HT.out, by go_num, hb⟩, by simp [intOf]; omega⟩
    ·have HF := Lib.hid (Nm.few_not hlt (by omega))
     have hl' : 100 < (n[k].length : Int) := by omega
     clear hto hl
     go_wp2
     go_ret
     exact ⟨by rw [HF.out]; rfl, hb⟩
   ·have HF := Lib.hid (hto.done hlt (by omega))
    go_wp2
    go_ret
    exact ⟨by rw [HF.out]; rfl, hb⟩
def Nm.sameTo (a b : List (List UInt8)) (k : Nat) : Prop := k <= a.length /\ ∀ j (h : j < a.length) (h' : j < b.length), j < k -> Lb.fold a[j] = Lb.fold b[j]
theorem Nm.sameTo.step {a b k} (h : Nm.sameTo a b k) (hk : k < a.length) (hk' : k < b.length) (hl : Lb.fold a[k] = Lb.fold b[k]) : Nm.sameTo a b (k + 1) := by
 refine ⟨hk, fun j h1 h2 hj => ?_⟩
 by_cases e : j < k
 ·exact h.2 j h1 h2 e
 ·obtain rfl : j = k := by omega
  exact hl
theorem Nm.sameTo.done {a b k} (h : Nm.sameTo a b k) (hk : ¬ k < a.length) (hl : a.length = b.length) : Nm.same a b = true := by
 unfold Nm.same Nm.fold
 rw [beq_iff_eq]
 apply List.ext_getElem (by simpa using hl)
 intro j h1 h2
 simp only [List.length_map] at h1 h2
 rw [List.getElem_map, List.getElem_map]
 exact h.2 j h1 h2 (by omega)
theorem Rd.cells {o cap n} {w : World} (h : Rd (.slice o n.length cap) n w) : ∀ wr, Below w.heap.size w wr -> ∀ j (h : j < n.length), ∃ a, o = some a /\ wr.cell? (a.add j) = some (S n[j]) := fun wr hb j hj => by
 obtain ⟨o', cap', he, h1, h2, h3, h4⟩ := h
 cases he
 obtain ⟨a, ha, hc⟩ := h4 j hj; exact ⟨a, ha, (hb.cell (cell_lt hc)).trans hc⟩
theorem Rd.form {v n} {w : World} (h : Rd v n w) : ∃ o cap, v = .slice o n.length cap /\ n.length <= cap /\ cap <= 9223372036854775807 := by
 obtain ⟨o', cap', he, h1, h2, _⟩ := h
 exact ⟨_, _, he, h1, by unfold maxLen at h2; omega⟩
end Go.Proofs.YtgmbefolgppmdaaGreatDoor
end
section
namespace Go.Proofs.YtgmbefolgppmdaaGreatDoor
open Go.RowKit Go.Shelf
set_option maxRecDepth 100000
end Go.Proofs.YtgmbefolgppmdaaGreatDoor
end
