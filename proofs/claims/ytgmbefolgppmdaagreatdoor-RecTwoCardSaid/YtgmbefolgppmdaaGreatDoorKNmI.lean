/- Names in small letters. -/
import Derived.Test.YtgmbefolgppmdaaGreatDoorKNmH
import Derived.Laws.MakeOwn
import Derived.SliceStrings
section
namespace Go.Proofs.YtgmbefolgppmdaaGreatDoor
open Go.RowKit Go.Shelf
set_option maxRecDepth 100000
def Nm.foldTo (n : List (List UInt8)) (k : Nat) : List (List UInt8) := (n.take k).map Lb.fold ++ List.replicate (n.length - k) []
theorem Nm.foldTo_zero (n : List (List UInt8)) : Nm.foldTo n 0 = List.replicate n.length [] := by simp [Nm.foldTo]
theorem Nm.foldTo_length (n : List (List UInt8)) (k : Nat) (h : k <= n.length) : (Nm.foldTo n k).length = n.length := by simp [Nm.foldTo]; omega
theorem Nm.foldTo_succ (n : List (List UInt8)) (k : Nat) (h : k < n.length) : ((Nm.foldTo n k).map S).set k (S (Lb.fold n[k])) = (Nm.foldTo n (k + 1)).map S := by
 rw [<- List.map_set]
 congr 1
 unfold Nm.foldTo
 rw [List.set_append_right _ _ (by simp; omega), List.take_succ_eq_append_getElem h, List.map_append, List.append_assoc]
 congr 1
 rw [show k - ((n.take k).map Lb.fold).length = 0 by simp; omega, show n.length - k = (n.length - (k + 1)) + 1 by omega, List.replicate_succ, List.set_cons_zero]
 rfl
end Go.Proofs.YtgmbefolgppmdaaGreatDoor
end
section
namespace Go.Proofs.YtgmbefolgppmdaaGreatDoor
open Go.RowKit Go.Shelf
set_option maxRecDepth 100000
theorem Rd.init {o l cap} {W : World} (h : Rd (.slice o l.length cap) l W) (j : Nat) (hj : j <= l.length) : Rd (.slice o j cap) (l.take j) W := by
 obtain ⟨_, _, e, h1, h2, h3, h4⟩ := h; cases e
 have hl : (l.take j).length = j := by simp; omega
 refine ⟨o, cap, by rw [hl], by omega, h2, h3, fun k hk => ?_⟩
 obtain ⟨a, ha, hc⟩ := h4 k (by omega)
 exact ⟨a, ha, by rw [hc]; simp⟩
def RdErr (p : List (List UInt8) × Int) (w : World) (e : Ending) (w' : World) : Prop := ∃ v, e = .returned (.tuple #[v, .int .i64 p.2]) /\ Rd v p.1 w' /\ Below w.heap.size w w'
theorem NB.append {a b : List (List UInt8)} (ha : NB a) (hb : NB b) (h : a.length + b.length <= 1000) : NB (a ++ b) := ⟨by simpa using h, fun x hx => by
 rcases List.mem_append.1 hx with h | h
 ·exact ha.2 x h
 ·exact hb.2 x h⟩
end Go.Proofs.YtgmbefolgppmdaaGreatDoor
end
section
namespace Go.Proofs.YtgmbefolgppmdaaGreatDoor
open Go.RowKit Go.Shelf
set_option maxRecDepth 100000
theorem Lb.parse_len {p : List UInt8} (_h : (Lb.parse p).2 = 0) : (Lb.parse p).1.length <= 63 := by
 unfold Lb.parse at _h ⊢
 split
 ·rename_i hu
  rw [if_pos hu] at _h
  split
  ·rename_i hc
   unfold Lb.check at hc
   split at hc
   ·cases hc
   ·split at hc
    ·cases hc
    ·simpa using (by omega)
  ·simp
 ·simp
structure Nm.PtAt (l acc : List (List UInt8)) (k : Nat) : Prop where
 le : k <= l.length
 len : acc.length = k
 short : ∀ x ∈ acc, x.length <= 63
 eq : Nm.partsF l = (Nm.partsF (l.drop k)).map (fun x => (acc ++ x.1, x.2))
theorem Nm.PtAt.start (l : List (List UInt8)) : Nm.PtAt l [] 0 := by
 refine ⟨by omega, rfl, fun x h => (by cases h), ?_⟩
 rw [List.drop_zero]
 cases Nm.partsF l with
 | error e => rfl
 | ok x => rfl
theorem Nm.PtAt.go {l acc k} (h : Nm.PtAt l acc k) (hk : k < l.length) (hl : ¬ (l[k] = [] /\ k + 1 = l.length)) (hz : (Lb.parse l[k]).2 = 0) : Nm.PtAt l (acc ++ [(Lb.parse l[k]).1]) (k + 1) := by
 refine ⟨hk, by simp [h.len], fun x hx => ?_, ?_⟩
 ·rcases List.mem_append.1 hx with hx | hx
  ·exact h.short x hx
  ·rw [List.mem_singleton.1 hx]; exact Lb.parse_len hz
 ·rw [h.eq, List.drop_eq_getElem_cons hk, Nm.partsF, if_neg, if_pos hz]
  ·cases Nm.partsF (l.drop (k + 1)) with
   | error e => rfl
   | ok x => simp [Except.map]
  ·rintro ⟨h1, h2⟩
   exact hl ⟨h1, by have := List.length_drop (i := k + 1) (l := l); rw [h2] at this; simp at this; omega⟩
theorem Nm.PtAt.bad {l acc k} (h : Nm.PtAt l acc k) (hk : k < l.length) (hl : ¬ (l[k] = [] /\ k + 1 = l.length)) (hz : (Lb.parse l[k]).2 ≠ 0) : Nm.partsF l = .error (Lb.parse l[k]).2 := by
 rw [h.eq, List.drop_eq_getElem_cons hk, Nm.partsF, if_neg, if_neg hz]
 ·rfl
 ·rintro ⟨h1, h2⟩
  exact hl ⟨h1, by have := List.length_drop (i := k + 1) (l := l); rw [h2] at this; simp at this; omega⟩
theorem Nm.PtAt.whole {l acc k} (h : Nm.PtAt l acc k) (hk : k < l.length) (hl : l[k] = [] /\ k + 1 = l.length) : Nm.partsF l = .ok (acc, true) := by
 rw [h.eq, List.drop_eq_getElem_cons hk, Nm.partsF, if_pos ⟨hl.1, List.drop_of_length_le (by omega)⟩]
 simp [Except.map]
theorem Nm.PtAt.done {l acc k} (h : Nm.PtAt l acc k) (hk : ¬ k < l.length) : Nm.partsF l = .ok (acc, false) := by
 rw [h.eq, List.drop_of_length_le (by omega), Nm.partsF]
 simp [Except.map]
def PartsP (r : Except Int (List (List UInt8) × Bool)) (w : World) (e : Ending) (w' : World) : Prop := Below w.heap.size w w' /\ match r with
 | .error z => z ≠ 0 /\ e = .returned (.tuple #[.slice none 0 0, .bool false, .int .i64 z])
 | .ok (n, b) => n.length <= 800 /\ (∀ x ∈ n, x.length <= 63) /\ ∃ v, e = .returned (.tuple #[v, .bool b, .int .i64 0]) /\ Row (Own w) 9 1 v n.length (n.map S) w'
end Go.Proofs.YtgmbefolgppmdaaGreatDoor
end
section
namespace Go.Proofs.YtgmbefolgppmdaaGreatDoor
open Go.RowKit Go.Shelf
set_option maxRecDepth 100000
theorem NB.short {n : List (List UInt8)} (h : n.length <= 800) (hs : ∀ x ∈ n, x.length <= 63) : NB n := ⟨by omega, fun x hx => by have := hs x hx; omega⟩
def Nm.parseB (r : Except Int (List (List UInt8) × Bool)) (n : List (List UInt8)) : List (List UInt8) × Int := match r with
 | .error e => ([], e)
 | .ok (m, true) => Nm.fin m
 | .ok (m, false) => Nm.fin (m ++ n)
end Go.Proofs.YtgmbefolgppmdaaGreatDoor
end
section
namespace Go.Proofs.YtgmbefolgppmdaaGreatDoor
open Go.RowKit Go.Shelf
set_option maxRecDepth 100000
def RpAt (w : World) (l : List (List UInt8)) (k : Nat) (acc : List (List UInt8)) (b : Bool) (v : Value) (wr : World) : Prop :=
 acc.length <= 800 /\ (∀ x ∈ acc, x.length <= 63) /\ Row (Own w) 9 1 v acc.length (acc.map S) wr /\ (b = false -> Nm.PtAt l acc k) /\ (b = true -> k = l.length /\ Nm.partsF l = .ok (acc, true))
end Go.Proofs.YtgmbefolgppmdaaGreatDoor
end
section
namespace Go.Proofs.YtgmbefolgppmdaaGreatDoor
open Go.RowKit Go.Shelf
set_option maxRecDepth 100000
theorem Rd.alloc {v l} {W : World} (h : Rd v l W) (o : Obj) : Rd v l (W.alloc o) := h.kept fun _p hp => World.cell?_of_block (Below.heap_alloc _ _ _ hp)
abbrev kn : List (List UInt8) := [[97], [66], [99]]
abbrev km : List (List UInt8) := [[120]]
abbrev ks : List (List UInt8) := [[97], [66], [100], [101]]
end Go.Proofs.YtgmbefolgppmdaaGreatDoor
end
section
namespace Go.Proofs.YtgmbefolgppmdaaGreatDoor
open Go.RowKit Go.Shelf Go.ChangeShapes Go.WideShapes
set_option maxRecDepth 100000
end Go.Proofs.YtgmbefolgppmdaaGreatDoor
end
section
namespace Go.Proofs.YtgmbefolgppmdaaGreatDoor
open Go.RowKit Go.Shelf
set_option maxRecDepth 100000
theorem Nm.check_zero {n : List (List UInt8)} (h : Nm.check n = 0) : Nm.check0 n = 0 /\ Nm.len n <= 255 := by
 unfold Nm.check at h
 split at h
 ·rename_i h0
  split at h
  ·cases h
  ·exact ⟨h0, by omega⟩
 ·rename_i h0; exact absurd h h0
theorem Lb.check_zero {m : Nat} (h : Lb.check m = 0) : 0 < m /\ m <= 63 := by
 unfold Lb.check at h
 split at h
 ·cases h
 ·split at h
  ·cases h
  ·omega
theorem Lb.text_ne {x : List UInt8} (h : 0 < x.length) : Lb.text x ≠ [] := by
 cases x with
 | nil => simp at h
 | cons c r =>
  show Lb.textC c ++ Lb.text r ≠ []
  unfold Lb.textC
  split
  ·simp [Lb.esc]
  ·split <;> simp
theorem Nm.words_ne {n : List (List UInt8)} (h : n ≠ []) (hc : ∀ x ∈ n, Lb.check x.length = 0) : Nm.words n ≠ [64] /\ Nm.words n ≠ [46] /\ Nm.words n ≠ [] := by
 cases n with
 | nil => exact absurd rfl h
 | cons x r =>
  have hx := Lb.text_ne (Lb.check_zero (hc x (List.mem_cons_self ..))).1
  have hl : 0 < (Lb.text x).length := List.length_pos_iff.2 hx
  refine ⟨fun e => ?_, fun e => ?_, fun e => ?_⟩
  all_goals
   have := congrArg List.length e
   simp [Nm.words] at this
   try omega
theorem Nm.cmpR_anti : ∀ (a b : List (List UInt8)), Nm.cmpR b a = 0 - Nm.cmpR a b
 | [], [] => rfl
 | [], _ :: _ => rfl
 | _ :: _, [] => rfl
 | x :: a, y :: b => by
  have h : cmpL y x = 0 - cmpL x y := by unfold cmpL; rw [cmp_anti]; omega
  unfold Nm.cmpR
  by_cases h0 : cmpL x y = 0
  ·rw [if_pos h0, if_pos (by omega)]; exact Nm.cmpR_anti a b
  ·rw [if_neg h0, if_neg (by omega)]; exact h
theorem Nm.cmp_anti (a b : List (List UInt8)) : Nm.cmp b a = 0 - Nm.cmp a b := Nm.cmpR_anti _ _
end Go.Proofs.YtgmbefolgppmdaaGreatDoor
end
section
namespace Go.Proofs.YtgmbefolgppmdaaGreatDoor
open Go.RowKit Go.Shelf
set_option maxRecDepth 100000
end Go.Proofs.YtgmbefolgppmdaaGreatDoor
end
section
namespace Go.Proofs.YtgmbefolgppmdaaGreatDoor
open Go.RowKit Go.Shelf
set_option maxRecDepth 100000
theorem cmpL_zero (x y : List UInt8) : cmpL x y = 0 ↔ Lb.fold x = Lb.fold y := by unfold cmpL; exact cmp_eq_zero _ _
theorem cmpL_anti (x y : List UInt8) : cmpL y x = - cmpL x y := by unfold cmpL; exact cmp_anti _ _
theorem cmpL_left {x y : List UInt8} (h : cmpL x y = 0) (z : List UInt8) : cmpL x z = cmpL y z := by unfold cmpL; rw [(cmpL_zero x y).1 h]
theorem cmpL_right {y z : List UInt8} (h : cmpL y z = 0) (x : List UInt8) : cmpL x y = cmpL x z := by unfold cmpL; rw [(cmpL_zero y z).1 h]
theorem cmpL_lt {x y z : List UInt8} (h : cmpL x y < 0) (k : cmpL y z < 0) : cmpL x z < 0 := by
 have h1 : cmpL x z <= 0 := by unfold cmpL at *; exact cmp_trans _ (Lb.fold y) _ (by omega) (by omega)
 have h2 : cmpL x z ≠ 0 := fun e => by
  have := cmpL_right e y
  have := cmpL_anti x y
  omega
 omega
theorem Nm.cmpR_trans : ∀ (a b c : List (List UInt8)), Nm.cmpR a b <= 0 -> Nm.cmpR b c <= 0 -> Nm.cmpR a c <= 0
 | [], _, [], _, _ => by simp [Nm.cmpR]
 | [], _, _ :: _, _, _ => by simp [Nm.cmpR]
 | _ :: _, [], _, h, _ => by simp [Nm.cmpR] at h
 | _ :: _, _ :: _, [], _, h => by simp [Nm.cmpR] at h
 | x :: a, y :: b, z :: c, h, k => by
  unfold Nm.cmpR at h k ⊢
  by_cases h0 : cmpL x y = 0
  ·rw [if_pos h0] at h
   rw [cmpL_left h0 z]
   by_cases k0 : cmpL y z = 0
   ·rw [if_pos k0] at k ⊢
    exact Nm.cmpR_trans a b c h k
   ·rw [if_neg k0] at k ⊢
    exact k
  ·rw [if_neg h0] at h
   by_cases k0 : cmpL y z = 0
   ·rw [<- cmpL_right k0 x, if_neg h0]; exact h
   ·rw [if_neg k0] at k
    have := cmpL_lt (x := x) (y := y) (z := z) (by omega) (by omega)
    rw [if_neg (by omega)]; omega
theorem Nm.cmp_trans {a b c : List (List UInt8)} (h : Nm.cmp a b <= 0) (k : Nm.cmp b c <= 0) : Nm.cmp a c <= 0 := Nm.cmpR_trans _ _ _ h k
theorem Nm.cmpR_range : ∀ (a b : List (List UInt8)), -1 <= Nm.cmpR a b /\ Nm.cmpR a b <= 1
 | [], [] => by simp [Nm.cmpR]
 | [], _ :: _ => by simp [Nm.cmpR]
 | _ :: _, [] => by simp [Nm.cmpR]
 | x :: a, y :: b => by
  unfold Nm.cmpR
  split
  ·exact Nm.cmpR_range a b
  ·have := cmp_range (Lb.fold x) (Lb.fold y)
   unfold cmpL; omega
theorem Nm.cmp_range (a b : List (List UInt8)) : -1 <= Nm.cmp a b /\ Nm.cmp a b <= 1 := Nm.cmpR_range _ _
theorem Nm.fold_length (n : List (List UInt8)) : (Nm.fold n).length = n.length := by simp [Nm.fold]
end Go.Proofs.YtgmbefolgppmdaaGreatDoor
end
