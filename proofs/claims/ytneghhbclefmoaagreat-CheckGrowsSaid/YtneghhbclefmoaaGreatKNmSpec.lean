
import Derived.Test.YtneghhbclefmoaaGreatKLabSpec2
import Derived.Deep.QuietTactic
import Derived.BigQuiet
import Derived.TacticsInMore
import Derived.LoopIn
import Derived.Test.YtneghhbclefmoaaGreatKReg
section
/- Plain functions of names. -/
namespace Go.Proofs.YtneghhbclefmoaaGreat
open Go.RowKit Go.Shelf
namespace Nm
def fold (n : List (List UInt8)) : List (List UInt8) := n.map Lb.fold
def len : List (List UInt8) -> Nat
 | [] => 1
 | l :: r => 1 + l.length + len r
def check0 : List (List UInt8) -> Int
 | [] => 0
 | l :: r => if Lb.check l.length = 0 then check0 r else Lb.check l.length
def check (n : List (List UInt8)) : Int := if check0 n = 0 then (if 255 < len n then 3 else 0) else check0 n
def words : List (List UInt8) -> List UInt8
 | [] => []
 | l :: r => Lb.text l ++ 46 :: words r
def text (n : List (List UInt8)) : List UInt8 := if n = [] then [46] else words n
def same (a b : List (List UInt8)) : Bool := fold a == fold b
def under (n z : List (List UInt8)) : Bool := decide (z.length <= n.length) && same (n.drop (n.length - z.length)) z
def cmpR : List (List UInt8) -> List (List UInt8) -> Int
 | [], [] => 0
 | [], _ :: _ => -1
 | _ :: _, [] => 1
 | x :: a, y :: b => if cmpL x y = 0 then cmpR a b else cmpL x y
def cmp (a b : List (List UInt8)) : Int := cmpR a.reverse b.reverse
def common (a b : List (List UInt8)) : List (List UInt8) := match a with
 | [] => []
 | x :: r => if under b (x :: r) then x :: r else common r b
def wild (n : List (List UInt8)) : Bool := match n with
 | [] => false
 | x :: _ => x == [42]
def swap (n f t : List (List UInt8)) : List (List UInt8) × Int :=
 if under n f = true then (if check (n.take (n.length - f.length) ++ t) = 0 then (n.take (n.length - f.length) ++ t, 0) else ([], 7)) else ([], 12)
def partsF : List (List UInt8) -> Except Int (List (List UInt8) × Bool)
 | [] => .ok ([], false)
 | p :: r => if p = [] /\ r = [] then .ok ([], true) else if (Lb.parse p).2 = 0 then (partsF r).map (fun x => ((Lb.parse p).1 :: x.1, x.2)) else .error (Lb.parse p).2
def parts (s : List UInt8) : Except Int (List (List UInt8) × Bool) := match Lb.split s with
 | none => .error 2
 | some l => partsF l
def fin (n : List (List UInt8)) : List (List UInt8) × Int := if check n = 0 then (n, 0) else ([], check n)
def parse (s : List UInt8) (origin : List (List UInt8)) : List (List UInt8) × Int :=
 if s = [64] then (origin, 0) else if s = [46] then ([], 0) else if s = [] then ([], 8)
 else match parts s with
  | .error e => ([], e)
  | .ok (n, true) => fin n
  | .ok (n, false) => fin (n ++ origin)
def parent (n : List (List UInt8)) : List (List UInt8) := n.drop 1
def few (n : List (List UInt8)) : Bool := decide (n.length <= 140) && n.all fun l => decide (l.length <= 100)
theorem len_le (n : List (List UInt8)) : ∀ (b : Nat), (∀ x ∈ n, x.length <= b) -> len n <= 1 + n.length * (b + 1) := by
 induction n with
 | nil => intro b _; simp [len]
 | cons x r ih =>
  intro b h
  have h1 := ih b (fun y hy => h y (List.mem_cons_of_mem _ hy))
  have h2 := h x (List.mem_cons_self ..)
  simp only [len, List.length_cons, Nat.add_mul]; omega
end Nm
def NB (n : List (List UInt8)) : Prop := n.length <= 1000 /\ ∀ x ∈ n, x.length <= 1000
theorem NB.get {n k} (h : NB n) (hk : k < n.length) : n[k].length <= 1000 := h.2 _ (List.getElem_mem hk)
theorem NB.drop {n} (h : NB n) (k : Nat) : NB (n.drop k) := ⟨by have := h.1; simp; omega, fun x hx => h.2 x (List.mem_of_mem_drop hx)⟩
theorem NB.take {n} (h : NB n) (k : Nat) : NB (n.take k) := ⟨by have := h.1; simp; omega, fun x hx => h.2 x (List.mem_of_mem_take hx)⟩
theorem NB.few {n} (h : Nm.few n = true) : NB n := by
 unfold Nm.few at h
 simp only [Bool.and_eq_true, decide_eq_true_eq, List.all_eq_true] at h
 exact ⟨by omega, fun x hx => by have := h.2 x hx; omega⟩
theorem NB.fold {n} (h : NB n) : NB (Nm.fold n) := ⟨by simpa [Nm.fold] using h.1, fun x hx => by
 simp only [Nm.fold, List.mem_map] at hx; obtain ⟨y, hy, rfl⟩ := hx; rw [fold_length]; exact h.2 y hy⟩
theorem NB.len {n} (h : NB n) : Nm.len n <= 1001001 := by
 have := Nm.len_le n 1000 h.2
 have h1 := h.1
 have : n.length * 1001 <= 1000 * 1001 := Nat.mul_le_mul_right _ h1
 omega
def Rd (v : Value) (l : List (List UInt8)) (W : World) : Prop :=
 ∃ o cap, v = .slice o l.length cap /\ l.length <= cap /\ cap <= maxLen /\ (o = none -> cap = 0) /\ ∀ j (h : j < l.length), ∃ a, o = some a /\ W.cell? (a.add j) = some (S l[j])
theorem Rd.kept {v l} {W W' : World} (h : Rd v l W) (hk : ∀ p : Addr, p.block < W.heap.size -> W'.cell? p = W.cell? p) : Rd v l W' := by
 obtain ⟨o, cap, h1, h2, h3, h4, h5⟩ := h
 refine ⟨o, cap, h1, h2, h3, h4, fun j hj => ?_⟩
 obtain ⟨a, ha, hc⟩ := h5 j hj
 exact ⟨a, ha, (hk _ (cell_lt hc)).trans hc⟩
theorem Rd.below {v l} {W W' : World} (h : Rd v l W) (hb : Below W.heap.size W W') : Rd v l W' := h.kept fun _p hp => hb.cell hp
theorem Rd.heap {v l} {W W' : World} (h : Rd v l W) (hb : W'.heap = W.heap) : Rd v l W' := h.kept fun p _ => by unfold World.cell?; rw [hb]
theorem Rd.nil (W : World) : Rd (.slice none 0 0) [] W := ⟨none, 0, rfl, by simp, by unfold maxLen; omega, fun _ => rfl, fun j h => by simp at h⟩
theorem Rd.of_strs {v l} {W : World} (h : RdStrs v l W) : Rd v l W := by
 rcases h with ⟨rfl, rfl⟩ | ⟨g, off, cap, rfl, h1, h2, h3, h4⟩
 ·exact Rd.nil W
 ·refine ⟨_, _, rfl, h1, h2, (fun h => by cases h), fun j hj => ⟨_, rfl, ?_⟩⟩
  have := h4 j hj
  unfold Addr.add
  split
  ·rename_i e; subst e; exact this
  ·exact this
theorem add_add (a : Addr) (i j : Nat) (h : 0 < i) : (a.add i).add j = a.add (i + j) := by
 unfold Addr.add
 rw [if_neg (show ¬ i = 0 by omega), if_neg (show ¬ i + j = 0 by omega)]
 split
 ·rename_i e; subst e; rfl
 ·simp [Nat.add_assoc]
theorem add_zero' (a : Addr) : a.add 0 = a := rfl
theorem add_add' (a : Addr) (i j : Nat) : (a.add i).add j = a.add (i + j) := by
 rcases Nat.eq_zero_or_pos i with rfl | h
 ·rw [add_zero', Nat.zero_add]
 ·exact add_add a i j h
theorem Rd.sub {o l cap} {W : World} (h : Rd (.slice o l.length cap) l W) (i j c : Nat) (hi : i <= j) (hj : j <= l.length) (hc : c <= cap - i) (hcl : j - i <= c) (o' : Option Addr) (ho : o' = o.map (·.add i)) : Rd (.slice o' (j - i) c) ((l.drop i).take (j - i)) W := by
 obtain ⟨o1, cap1, h1, h2, h3, h4, h5⟩ := h
 cases h1
 have hl : ((l.drop i).take (j - i)).length = j - i := by simp; omega
 refine ⟨o', c, by rw [hl], by rw [hl]; omega, by omega, fun e => ?_, fun k hk => ?_⟩
 ·rw [ho] at e
  have : o = none := by cases o with
   | none => rfl
   | some a => cases e
  have := h4 this; omega
 ·rw [hl] at hk
  obtain ⟨a, rfl, hc⟩ := h5 (i + k) (by omega)
  refine ⟨a.add i, by rw [ho]; rfl, ?_⟩
  rw [add_add', hc]
  simp
theorem Rd.empty (o : Option Addr) (cap : Nat) (hc : cap = 0) (W : World) : Rd (.slice o 0 cap) [] W := ⟨o, cap, rfl, by simp, by unfold maxLen; omega, fun _ => hc, fun j h => by simp at h⟩
theorem Rd.tail {o l cap} {W : World} (h : Rd (.slice o l.length cap) l W) (i : Nat) (hi : i <= l.length) : Rd (.slice (o.map (·.add i)) (l.length - i) (cap - i)) (l.drop i) W := by
 have h' := h.sub i l.length (cap - i) hi (Nat.le_refl _) (Nat.le_refl _) (by obtain ⟨_, _, e, h1, _⟩ := h; cases e; omega) _ rfl
 rwa [List.take_of_length_le (by simp)] at h'
theorem Rd.tail0 {o l cap} {W : World} (h : Rd (.slice o l.length cap) l W) (i : Nat) (hi : i <= l.length) (hc : cap = i) : Rd (.slice o (l.length - i) 0) (l.drop i) W := by
 obtain ⟨_, _, e, h1, _⟩ := h; cases e
 rw [show l.length - i = 0 by omega, List.drop_of_length_le (by omega)]
 exact Rd.empty _ _ rfl _
end Go.Proofs.YtneghhbclefmoaaGreat
end
section
/- Names: few, is, same, under. -/
namespace Go.Proofs.YtneghhbclefmoaaGreat
open Go.RowKit Go.Shelf
set_option maxRecDepth 100000
abbrev Gives (v : Value) (w : World) (e : Ending) (w' : World) : Prop := e = .returned v /\ Below w.heap.size w w'
def Nm.fewTo (n : List (List UInt8)) (k : Nat) : Prop := k <= n.length /\ ∀ j (h : j < n.length), j < k -> n[j].length <= 100
theorem Nm.fewTo.step {n k} (h : Nm.fewTo n k) (hk : k < n.length) (hl : n[k].length <= 100) : Nm.fewTo n (k + 1) := by
 refine ⟨hk, fun j h' hj => ?_⟩
 by_cases e : j < k
 ·exact h.2 j h' e
 ·obtain rfl : j = k := by omega
  exact hl
theorem Nm.fewTo.done {n k} (h : Nm.fewTo n k) (hk : ¬ k < n.length) (h1 : n.length <= 140) : Nm.few n = true := by
 unfold Nm.few
 simp only [Bool.and_eq_true, decide_eq_true_eq, List.all_eq_true]
 refine ⟨h1, fun x hx => ?_⟩
 obtain ⟨j, hj, rfl⟩ := List.mem_iff_getElem.1 hx
 exact h.2 j hj (by have := h.1; omega)
theorem Nm.few_long {n} (h : 140 < n.length) : Nm.few n = false := by unfold Nm.few; simp; omega
theorem Nm.few_not {n : List (List UInt8)} {k} (hk : k < n.length) (h : 100 < n[k].length) : Nm.few n = false := by
 rw [Bool.eq_false_iff]
 intro hf
 unfold Nm.few at hf
 simp only [Bool.and_eq_true, decide_eq_true_eq, List.all_eq_true] at hf
 have := hf.2 _ (List.getElem_mem hk); omega
set_option maxHeartbeats 1000000 in
theorem few_any (v : Value) (n : List (List UInt8)) (w : World) (hv : Rd v n w) :
  Calls Tryz.prog 46 #[v] w (Gives (.bool (Nm.few n)) w) := by
 have HV := Lib.hid hv
 obtain ⟨o, cap, rfl, h1, h2, h3, h4⟩ := hv
 unfold maxLen at h2
 clear h3
 have hcl : ∀ wr, Below w.heap.size w wr -> ∀ j (h : j < n.length), ∃ a, o = some a /\ wr.cell? (a.add j) = some (S n[j]) := fun wr hb j h => by
  obtain ⟨a, ha, hc⟩ := h4 j h; exact ⟨a, ha, (hb.cell (cell_lt hc)).trans hc⟩
 have HC := Lib.hid hcl
 clear hcl h4
 by_cases h140 : 140 < n.length
 ·have HF := Lib.hid (Nm.few_long h140)
  have h140' : 140 < (n.length : Int) := by omega
  go_enter Tryz.func46, Tryz.ntmps46
  go_wp2
  go_ret
  exact ⟨by rw [HF.out]; rfl, Below.refl _ _⟩
 ·have h140' : (n.length : Int) <= 140 := by omega
  go_enter Tryz.func46, Tryz.ntmps46
  go_wp2
  go_loopw [3] (fun i wr => ∃ k : Nat, Nm.fewTo n k /\ i = .int .i64 k /\ Below w.heap.size w wr) (fun i _ => n.length - (intOf i).toNat)
  case atStart => exact ⟨0, ⟨by omega, fun j _ h => by omega⟩, rfl, Below.refl _ _⟩
  case round =>
   obtain ⟨k, hto, rfl, hb⟩ := hrel
   by_cases hlt : k < n.length
   ·obtain ⟨a, rfl, e1⟩ := HC.out _ hb k hlt
    by_cases hl : n[k].length <= 100
    ·have HT := Lib.hid (hto.step hlt hl)
     have hl' : (n[k].length : Int) <= 100 := by omega
     clear hto hl
     go_wp2
     exact ⟨⟨k + 1, HT.out, by go_num, hb⟩, by simp [intOf]; omega⟩
    ·have HF := Lib.hid (Nm.few_not hlt (by omega))
     have hl' : 100 < (n[k].length : Int) := by omega
     clear hto hl
     go_wp2
     go_ret
     exact ⟨by rw [HF.out]; rfl, hb⟩
   ·have HF := Lib.hid (hto.done hlt (by omega))
    go_wp2
    go_ret
    exact ⟨by rw [HF.out]; rfl, hb⟩
theorem Nm.same_len {a b : List (List UInt8)} (h : a.length ≠ b.length) : Nm.same a b = false := by
 rw [Bool.eq_false_iff]; intro hs; apply h
 have := congrArg List.length (eq_of_beq hs)
 simpa [Nm.fold] using this
def Nm.sameTo (a b : List (List UInt8)) (k : Nat) : Prop := k <= a.length /\ ∀ j (h : j < a.length) (h' : j < b.length), j < k -> Lb.fold a[j] = Lb.fold b[j]
theorem Nm.sameTo.step {a b k} (h : Nm.sameTo a b k) (hk : k < a.length) (hk' : k < b.length) (hl : Lb.fold a[k] = Lb.fold b[k]) : Nm.sameTo a b (k + 1) := by
 refine ⟨hk, fun j h1 h2 hj => ?_⟩
 by_cases e : j < k
 ·exact h.2 j h1 h2 e
 ·obtain rfl : j = k := by omega
  exact hl
theorem Nm.sameTo.done {a b k} (h : Nm.sameTo a b k) (hk : ¬ k < a.length) (hl : a.length = b.length) : Nm.same a b = true := by
 unfold Nm.same Nm.fold
 rw [beq_iff_eq]
 apply List.ext_getElem (by simpa using hl)
 intro j h1 h2
 simp only [List.length_map] at h1 h2
 rw [List.getElem_map, List.getElem_map]
 exact h.2 j h1 h2 (by omega)
theorem Nm.same_not {a b : List (List UInt8)} {k} (hk : k < a.length) (hk' : k < b.length) (hl : Lb.fold a[k] ≠ Lb.fold b[k]) : Nm.same a b = false := by
 rw [Bool.eq_false_iff]; intro hs; apply hl
 have := eq_of_beq hs
 unfold Nm.fold at this
 have h2 := congrArg (fun l => l[k]?) this
 simpa [hk, hk'] using h2
theorem Rd.cells {o cap n} {w : World} (h : Rd (.slice o n.length cap) n w) : ∀ wr, Below w.heap.size w wr -> ∀ j (h : j < n.length), ∃ a, o = some a /\ wr.cell? (a.add j) = some (S n[j]) := fun wr hb j hj => by
 obtain ⟨o', cap', he, h1, h2, h3, h4⟩ := h
 cases he
 obtain ⟨a, ha, hc⟩ := h4 j hj; exact ⟨a, ha, (hb.cell (cell_lt hc)).trans hc⟩
theorem Rd.form {v n} {w : World} (h : Rd v n w) : ∃ o cap, v = .slice o n.length cap /\ n.length <= cap /\ cap <= 9223372036854775807 := by
 obtain ⟨o', cap', he, h1, h2, _⟩ := h
 exact ⟨_, _, he, h1, by unfold maxLen at h2; omega⟩
set_option maxHeartbeats 1000000 in
theorem refSame_any (v u : Value) (a b : List (List UInt8)) (w : World) (hv : Rd v a w) (hu : Rd u b w) (ha : NB a) (hb : NB b) :
  Calls Tryz.prog 63 #[v, u] w (Gives (.bool (Nm.same a b)) w) := by
 obtain ⟨o, cap, rfl, h1, h2⟩ := hv.form
 obtain ⟨o', cap', rfl, h1', h2'⟩ := hu.form
 have HC := Lib.hid hv.cells
 have HD := Lib.hid hu.cells
 have na : (a.length : Int) <= 1000 := by have := ha.1; omega
 have nb : (b.length : Int) <= 1000 := by have := hb.1; omega
 have GA := Lib.hid (show ∀ k (h : k < a.length), a[k].length <= 1000000 from fun k h => by have := ha.get h; omega)
 have GB := Lib.hid (show ∀ k (h : k < b.length), b[k].length <= 1000000 from fun k h => by have := hb.get h; omega)
 clear hv hu ha hb
 by_cases hab : a.length = b.length
 ·have hab' : ((a.length : Int) != b.length) = false := by simp [hab]
  have HAB := Lib.hid hab
  clear hab
  refine (callsIn_wide (n := 0)).1 ?_
  refine callsIn_of_wp Tryz.func63 rfl trivial ?_ rfl
  simp only [Tryz.ntmps63, List.size_toArray, List.length_cons, List.length_nil, Nat.reduceAdd, Nat.reduceSub, Array.replicate_succ, Array.replicate_zero, List.push_toArray, List.append_toArray, List.nil_append, List.cons_append]
  gi_wp2
  gi_loopw [5] (fun i wr => ∃ k : Nat, Nm.sameTo a b k /\ i = .int .i64 k /\ Below w.heap.size w wr) (fun i _ => a.length - (intOf i).toNat)
  case atStart => exact ⟨0, ⟨by omega, fun j _ _ h => by omega⟩, rfl, Below.refl _ _⟩
  case round =>
   obtain ⟨k, hto, rfl, hb⟩ := hrel
   by_cases hlt : k < a.length
   ·have hlt' : k < b.length := by have := HAB.out; omega
    obtain ⟨x, rfl, e1⟩ := HC.out _ hb k hlt
    obtain ⟨y, rfl, e2⟩ := HD.out _ hb k hlt'
    have g1 := GA.out k hlt
    have g2 := GB.out k hlt'
    obtain ⟨be, hbe⟩ : ∃ be, (Lb.fold a[k] == Lb.fold b[k]) = be := ⟨_, rfl⟩
    gi_wp2_with fail
    refine drawnH [3, 4, 8, 9, 10] (fun w' => w'.cell? (x.add k) = some (S a[k]) /\ w'.cell? (y.add k) = some (S b[k])) 11 rfl (by kernel_rfl) ?_
    intro w' hw'
    have hS : w'.cell? (x.add k) = some (S a[k]) /\ w'.cell? (y.add k) = some (S b[k]) := by subst hw'; exact ⟨e1, e2⟩
    have hb' : Below w.heap.size w w' := by subst hw'; exact hb.drew
    clear hw'
    refine tP 0 ?qv0 (fun w1 _ => ?qy0) ?_
    case qy0 => go_simp; try rfl
    refine tP 1 ?qv1 (fun w1 _ => ?qy1) ?_
    case qy1 => go_simp; try rfl
    refine tP 2 ?qv2 (fun w1 _ => ?qy2) ?_
    case qy2 => go_simp; try rfl
    refine tP 5 ?qv5 (fun w1 _ => ?qy5) ?_
    case qy5 => go_simp; try rfl
    refine tP 6 ?qv6 (fun w1 _ => ?qy6) ?_
    case qy6 => go_simp; try rfl
    refine tP 7 ?qv7 (fun w1 _ => ?qy7) ?_
    case qy7 => go_simp; try rfl
    refine tH 3 ?qv3 hS (fun w1 ⟨c1, c2⟩ => ?qy3) ?_
    case qy3 => go_simp; try rfl
    refine tH 8 ?qv8 hS (fun w1 ⟨c1, c2⟩ => ?qy8) ?_
    case qy8 => go_simp; try rfl
    refine oneH 4 (by rfl) (by kernel_rfl) (fun K hK => ?_)
    gi_wp2_with (gi_at_call 109; refine (callsIn_wide.2 (refFold_any a[k] _ g1)).mono ?_; rintro e w1 ⟨rfl, b1⟩)
    have f1 := (b1.cell (cell_lt hS.1)).trans hS.1
    have f2 := (b1.cell (cell_lt hS.2)).trans hS.2
    refine hK _ _ (fun _ => ⟨f1, f2⟩) ?_
    clear hK K
    refine oneH 9 (by rfl) (by kernel_rfl) (fun K hK => ?_)
    gi_wp2_with (gi_at_call 109; refine (callsIn_wide.2 (refFold_any b[k] _ g2)).mono ?_; rintro e w2 ⟨rfl, b2⟩)
    refine hK _ _ (fun _ => ⟨(b2.cell (cell_lt f1)).trans f1, (b2.cell (cell_lt f2)).trans f2⟩) ?_
    clear hK K
    have hb2 := below5 (below5 hb' b1) b2
    refine oneH 10 (by rfl) (by kernel_rfl) (fun K hK => ?_)
    gi_wp2_with fail
    refine hK _ _ (fun _ => ⟨(b2.cell (cell_lt f1)).trans f1, (b2.cell (cell_lt f2)).trans f2⟩) ?_
    clear hK K
    refine doneH (by kernel_rfl) ?_
    cases be with
    | true =>
     have HT := Lib.hid (hto.step hlt hlt' (eq_of_beq hbe))
     clear hto
     gi_wp2_with fail
     exact ⟨⟨k + 1, HT.out, by go_num, hb2⟩, by simp [intOf]; omega⟩
    | false =>
     have HF := Lib.hid (Nm.same_not hlt hlt' (by simpa using hbe))
     clear hto
     gi_wp2_with fail
     go_ret
     exact ⟨by rw [HF.out]; rfl, hb2⟩
   ·have HF := Lib.hid (hto.done hlt HAB.out)
    gi_wp2
    go_ret
    exact ⟨by rw [HF.out]; rfl, hb⟩
 ·have hab' : ((a.length : Int) != b.length) = true := by simp; omega
  have HF := Lib.hid (Nm.same_len hab)
  go_enter Tryz.func63, Tryz.ntmps63
  go_wp2
  go_ret
  exact ⟨by rw [HF.out]; rfl, Below.refl _ _⟩
end Go.Proofs.YtneghhbclefmoaaGreat
end
section
/- Names: alike, below. -/
namespace Go.Proofs.YtneghhbclefmoaaGreat
open Go.RowKit Go.Shelf
set_option maxRecDepth 100000
set_option maxHeartbeats 1000000 in
theorem equal_any (v u : Value) (a b : List (List UInt8)) (w : World) (hv : Rd v a w) (hu : Rd u b w) (ha : NB a) (hb : NB b) :
  Calls Tryz.prog 107 #[v, u, .func (.func 108) #[] #[]] w (Gives (.bool (Nm.same a b)) w) := by
 obtain ⟨o, cap, rfl, h1, h2⟩ := hv.form
 obtain ⟨o', cap', rfl, h1', h2'⟩ := hu.form
 have HC := Lib.hid hv.cells
 have HD := Lib.hid hu.cells
 have na : (a.length : Int) <= 1000 := by have := ha.1; omega
 have nb : (b.length : Int) <= 1000 := by have := hb.1; omega
 have GA := Lib.hid (show ∀ k (h : k < a.length), a[k].length <= 1000000 from fun k h => by have := ha.get h; omega)
 have GB := Lib.hid (show ∀ k (h : k < b.length), b[k].length <= 1000000 from fun k h => by have := hb.get h; omega)
 clear hv hu ha hb
 by_cases hab : a.length = b.length
 ·have hab' : ((a.length : Int) != b.length) = false := by simp [hab]
  have HAB := Lib.hid hab
  clear hab
  go_enter Tryz.func107, Tryz.ntmps107
  go_wp2
  go_loopw [17] (fun i wr => ∃ k : Nat, Nm.sameTo a b k /\ i = .int .i64 k /\ Below w.heap.size w wr) (fun i _ => a.length - (intOf i).toNat)
  case atStart => exact ⟨0, ⟨by omega, fun j _ _ h => by omega⟩, rfl, Below.refl _ _⟩
  case round =>
   obtain ⟨k, hto, rfl, hb⟩ := hrel
   by_cases hlt : k < a.length
   ·have hlt' : k < b.length := by have := HAB.out; omega
    obtain ⟨x, rfl, e1⟩ := HC.out _ hb k hlt
    obtain ⟨y, rfl, e2⟩ := HD.out _ hb k hlt'
    have g1 := GA.out k hlt
    have g2 := GB.out k hlt'
    obtain ⟨be, hbe⟩ : ∃ be, (Lb.fold a[k] == Lb.fold b[k]) = be := ⟨_, rfl⟩
    cases be with
    | true =>
     have HT := Lib.hid (hto.step hlt hlt' (eq_of_beq hbe))
     have HB := Lib.hid hbe
     clear hto hbe
     go_wp2_with fail
     refine (same_any a[k] b[k] _ g1 g2).mono ?_
     rintro e w1 ⟨rfl, b1⟩
     rw [HB.out]
     go_wp2_with fail
     exact ⟨⟨k + 1, HT.out, by go_num, below5 hb b1⟩, by simp [intOf]; omega⟩
    | false =>
     have HF := Lib.hid (Nm.same_not hlt hlt' (by simpa using hbe))
     have HB := Lib.hid hbe
     clear hto hbe
     go_wp2_with fail
     refine (same_any a[k] b[k] _ g1 g2).mono ?_
     rintro e w1 ⟨rfl, b1⟩
     rw [HB.out]
     go_wp2_with fail
     go_ret
     exact ⟨by rw [HF.out]; rfl, below5 hb b1⟩
   ·have HF := Lib.hid (hto.done hlt HAB.out)
    go_wp2
    go_ret
    exact ⟨by rw [HF.out]; rfl, hb⟩
 ·have hab' : ((a.length : Int) != b.length) = true := by simp; omega
  have HF := Lib.hid (Nm.same_len hab)
  go_enter Tryz.func107, Tryz.ntmps107
  go_wp2
  go_ret
  exact ⟨by rw [HF.out]; rfl, Below.refl _ _⟩
set_option maxHeartbeats 1000000 in
theorem nSame_any (v u : Value) (a b : List (List UInt8)) (w : World) (hv : Rd v a w) (hu : Rd u b w) (ha : NB a) (hb : NB b) :
  Calls Tryz.prog 61 #[v, u] w (Gives (.bool (Nm.same a b)) w) := by
 go_enter Tryz.func61, Tryz.ntmps61
 go_wp2_with fail
 refine (equal_any v u a b _ hv hu ha hb).mono ?_
 rintro e w1 ⟨rfl, b1⟩
 go_wp2_with fail
 go_ret
 exact ⟨rfl, b1⟩
theorem Nm.under_le {a b : List (List UInt8)} (h : b.length <= a.length) : Nm.under a b = Nm.same (a.drop (a.length - b.length)) b := by simp [Nm.under, h]
theorem Nm.under_lt {a b : List (List UInt8)} (h : a.length < b.length) : Nm.under a b = false := by simp [Nm.under]; omega
set_option maxHeartbeats 1000000 in
theorem refUnder_any (v u : Value) (a b : List (List UInt8)) (w : World) (hv : Rd v a w) (hu : Rd u b w) (ha : NB a) (hb : NB b) :
  Calls Tryz.prog 56 #[v, u] w (Gives (.bool (Nm.under a b)) w) := by
 obtain ⟨o, cap, rfl, h1, h2⟩ := hv.form
 obtain ⟨o', cap', rfl, h1', h2'⟩ := hu.form
 have na : (a.length : Int) <= 1000 := by have := ha.1; omega
 have nb : (b.length : Int) <= 1000 := by have := hb.1; omega
 have HU := Lib.hid hu
 by_cases hab : b.length <= a.length
 ·have hab' : (b.length : Int) <= a.length := by omega
  have HU := Lib.hid (Nm.under_le hab)
  have HT0 := Lib.hid (fun hc => hv.tail0 (a.length - b.length) (by omega) hc)
  have HT := Lib.hid (hv.tail (a.length - b.length) (by omega))
  have ND := Lib.hid (ha.drop (a.length - b.length))
  clear hv hab
  go_enter Tryz.func56, Tryz.ntmps56
  go_wp2_with fail
  ·refine (refSame_any _ _ _ b _ (HT0.out (by assumption)) hu ND.out hb).mono ?_
   rintro e w1 ⟨rfl, b1⟩
   rw [<- HU.out]
   go_wp2_with fail
   go_ret
   exact ⟨rfl, b1⟩
  ·refine (refSame_any _ _ _ b _ HT.out hu ND.out hb).mono ?_
   rintro e w1 ⟨rfl, b1⟩
   rw [<- HU.out]
   go_wp2_with fail
   go_ret
   exact ⟨rfl, b1⟩
 ·have hab' : (a.length : Int) < b.length := by omega
  have HF := Lib.hid (Nm.under_lt (show a.length < b.length by omega))
  clear hab
  go_enter Tryz.func56, Tryz.ntmps56
  go_wp2_with fail
  go_ret
  exact ⟨by rw [HF.out]; rfl, Below.refl _ _⟩
set_option maxHeartbeats 1000000 in
theorem nUnder_any (v u : Value) (a b : List (List UInt8)) (w : World) (hv : Rd v a w) (hu : Rd u b w) (ha : NB a) (hb : NB b) :
  Calls Tryz.prog 38 #[v, u] w (Gives (.bool (Nm.under a b)) w) := by
 obtain ⟨o, cap, rfl, h1, h2⟩ := hv.form
 obtain ⟨o', cap', rfl, h1', h2'⟩ := hu.form
 have na : (a.length : Int) <= 1000 := by have := ha.1; omega
 have nb : (b.length : Int) <= 1000 := by have := hb.1; omega
 have HU := Lib.hid hu
 by_cases hab : b.length <= a.length
 ·have hab' : (b.length : Int) <= a.length := by omega
  have HU := Lib.hid (Nm.under_le hab)
  have HT0 := Lib.hid (fun hc => hv.tail0 (a.length - b.length) (by omega) hc)
  have HT := Lib.hid (hv.tail (a.length - b.length) (by omega))
  have ND := Lib.hid (ha.drop (a.length - b.length))
  clear hv hab
  go_enter Tryz.func38, Tryz.ntmps38
  go_wp2_with fail
  ·refine (nSame_any _ _ _ b _ (HT0.out (by assumption)) hu ND.out hb).mono ?_
   rintro e w1 ⟨rfl, b1⟩
   rw [<- HU.out]
   go_wp2_with fail
   go_ret
   exact ⟨rfl, b1⟩
  ·refine (nSame_any _ _ _ b _ HT.out hu ND.out hb).mono ?_
   rintro e w1 ⟨rfl, b1⟩
   rw [<- HU.out]
   go_wp2_with fail
   go_ret
   exact ⟨rfl, b1⟩
 ·have hab' : (a.length : Int) < b.length := by omega
  have HF := Lib.hid (Nm.under_lt (show a.length < b.length by omega))
  clear hab
  go_enter Tryz.func38, Tryz.ntmps38
  go_wp2_with fail
  go_ret
  exact ⟨by rw [HF.out]; rfl, Below.refl _ _⟩
end Go.Proofs.YtneghhbclefmoaaGreat
end
