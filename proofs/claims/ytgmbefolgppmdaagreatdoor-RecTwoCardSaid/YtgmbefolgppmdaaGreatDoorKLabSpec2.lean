/- A text parted at its dots, plainly. -/
import Derived.Test.YtgmbefolgppmdaaGreatDoorKLabSpec
import Derived.Test.YtgmbefolgppmdaaGreatDoorKLabA
import Derived.Test.YtgmbefolgppmdaaGreatDoorKRow
section
namespace Go.Proofs.YtgmbefolgppmdaaGreatDoor.Lb
def splitF (cur : List UInt8) : List UInt8 -> Option (List (List UInt8))
 | [] => some [cur]
 | c :: r => if c = 46 then (splitF [] r).map (cur :: ·)
  else if c = 92 then (match r with
   | [] => none
   | d :: r => splitF (cur ++ [92, d]) r)
  else splitF (cur ++ [c]) r
def split (l : List UInt8) : Option (List (List UInt8)) := splitF [] l
def SpI (s : List UInt8) (parts : List (List UInt8)) (fr : Nat) (taken : Bool) (k : Nat) : Prop :=
 fr <= k /\ k <= s.length /\ (taken = false -> split s = (splitF ((s.drop fr).take (k - fr)) (s.drop k)).map (parts ++ ·)) /\
  (taken = true -> fr + 1 <= k /\ s[k - 1]? = some 92 /\ split s = (splitF ((s.drop fr).take (k - 1 - fr)) (92 :: s.drop k)).map (parts ++ ·))
theorem SpI.start (s : List UInt8) : SpI s [] 0 false 0 :=
 ⟨by omega, by omega, fun _ => by simp [split], fun h => by cases h⟩
theorem take_snoc (s : List UInt8) (fr k : Nat) (h : k < s.length) (hf : fr <= k) : (s.drop fr).take (k + 1 - fr) = (s.drop fr).take (k - fr) ++ [s[k]] := by
 rw [show k + 1 - fr = (k - fr) + 1 by omega, List.take_succ_eq_append_getElem (by simp; omega)]
 congr 2
 simp [List.getElem_drop]
 congr 1; omega
theorem SpI.plain {s parts fr k} (h : SpI s parts fr false k) (hk : k < s.length) (h1 : s[k] ≠ 92) (h2 : s[k] ≠ 46) : SpI s parts fr false (k + 1) := by
 obtain ⟨a, b, c, _⟩ := h
 refine ⟨by omega, by omega, fun _ => ?_, fun h => by cases h⟩
 rw [c rfl, List.drop_eq_getElem_cons hk, splitF.eq_def]
 simp only [h1, h2, if_false]
 rw [take_snoc s fr k hk a]
theorem SpI.stroke {s parts fr k} (h : SpI s parts fr false k) (hk : k < s.length) (h1 : s[k] = 92) : SpI s parts fr true (k + 1) := by
 obtain ⟨a, b, c, _⟩ := h
 refine ⟨by omega, by omega, fun h => (by cases h), fun _ => ⟨by omega, by simp [hk, h1], ?_⟩⟩
 rw [c rfl, List.drop_eq_getElem_cons hk, h1]; rfl
theorem SpI.taken {s parts fr k} (h : SpI s parts fr true k) (hk : k < s.length) : SpI s parts fr false (k + 1) := by
 obtain ⟨a, b, _, d⟩ := h
 obtain ⟨d1, d0, d2⟩ := d rfl
 refine ⟨by omega, by omega, fun _ => ?_, fun h => by cases h⟩
 rw [d2, List.drop_eq_getElem_cons hk, splitF.eq_def]
 simp only [show (92 : UInt8) ≠ 46 by decide, if_false, if_true]
 have h92 : s[k - 1]'(by omega) = 92 := by
  have := List.getElem?_eq_getElem (l := s) (i := k - 1) (by omega); rw [this] at d0; exact Option.some.inj d0
 have e1 := take_snoc s fr k hk (by omega)
 have e2 := take_snoc s fr (k - 1) (by omega) (by omega)
 rw [show k - 1 + 1 - fr = k - fr by omega, h92] at e2
 rw [e1, e2, List.append_assoc]; rfl
theorem SpI.fail {s parts fr} (h : SpI s parts fr true s.length) : split s = none := by
 obtain ⟨_, _, _, d⟩ := h
 rw [(d rfl).2.2, List.drop_length]; rfl
theorem SpI.done {s parts fr} (h : SpI s parts fr false s.length) : split s = some (parts ++ [s.drop fr]) := by
 obtain ⟨a, _, c, _⟩ := h
 rw [c rfl, List.drop_length, List.take_of_length_le (by simp)]; rfl
end Go.Proofs.YtgmbefolgppmdaaGreatDoor.Lb
end
section
namespace Go.Proofs.YtgmbefolgppmdaaGreatDoor
open Go.RowKit Go.Shelf
set_option maxRecDepth 100000
attribute [local go_sem] Oper.semAt_some
theorem Tryz.info_str : (Tryz.prog.info? 9).map (fun i => (i.zero, i.size, i.bytes)) = some (some (.string ⟨#[]⟩), 1, 16) := by kernel_rfl
def SpR (B : Nat) (g : Nat) : Prop := g = B + 1 \/ B + 8 <= g
structure SpM (B : Nat) (w : World) (s : List UInt8) (parts : List (List UInt8)) (fr : Nat) (taken : Bool) (W : World) : Prop where
 bs : Box B 9 (S s) W
 row : ∃ v, Box (B + 2) 22 v W /\ Row (SpR B) 9 1 v parts.length (parts.map S) W
 fr : Box (B + 3) 3 (.int .i64 fr) W
 tk : Box (B + 4) 4 (.bool taken) W
 it : Box (B + 5) 9 (S s) W
 below : Below B w W
 size : B + 6 <= W.heap.size
theorem SpM.put {B w s parts fr taken L W} (h : SpM B w s parts fr taken W) (hL : B <= L) {r : Loop} (hr : W.heap[L]? = some (.loop r)) (o : Obj) : SpM B w s parts fr taken (W.putObj L o) := by
 obtain ⟨v, h1, h2⟩ := h.row
 exact ⟨h.bs.put hr o, ⟨v, h1.put hr o, h2.put hr o⟩, h.fr.put hr o, h.tk.put hr o, h.it.put hr o, below_put h.below hL hr (by have := h.size; omega) o, by simpa using h.size⟩
theorem SpM.alloc {B w s parts fr taken W} (h : SpM B w s parts fr taken W) (o : Obj) : SpM B w s parts fr taken (W.alloc o) := by
 obtain ⟨v, h1, h2⟩ := h.row
 exact ⟨h.bs.alloc o, ⟨v, h1.alloc o, h2.alloc o⟩, h.fr.alloc o, h.tk.alloc o, h.it.alloc o, h.below.alloc (by have := h.size; omega) o, by have := h.size; simp; omega⟩
def SplI (B : Nat) (w : World) (s : List UInt8) (k : Nat) (W : World) : Prop := ∃ parts fr taken, Lb.SpI s parts fr taken k /\ parts.length <= k /\ SpM B w s parts fr taken W
theorem SplI.put {B w s L} (hL : B <= L) (k : Nat) (A : World) (r : Loop) (o : Obj) (h : SplI B w s k A) (hr : A.heap[L]? = some (.loop r)) : SplI B w s k (A.putObj L o) := by
 obtain ⟨parts, fr, taken, h1, h2, h3⟩ := h
 exact ⟨parts, fr, taken, h1, h2, h3.put hL hr o⟩
def SplitR (s : List UInt8) (v : Value) (z : Int) (W : World) : Prop := match Lb.split s with
 | some parts => z = 0 /\ RdStrs v parts W
 | none => z = 2 /\ v = .slice none 0 0
end Go.Proofs.YtgmbefolgppmdaaGreatDoor
end
section
namespace Go.Proofs.YtgmbefolgppmdaaGreatDoor
open Go.RowKit Go.Shelf
set_option maxRecDepth 100000
def RspI (w : World) (s : List UInt8) (v i : Value) (W : World) : Prop :=
 ∃ (ps : List (List UInt8)) (cur : List UInt8) (k : Nat), k <= s.length /\ i = .int .i64 k /\ ps.length <= k /\ cur.length <= k /\ Lb.split s = (Lb.splitF cur (s.drop k)).map (ps ++ ·) /\
  Row (fun g => w.heap.size <= g) 9 1 v (ps.length + 1) ((ps ++ [cur]).map S) W /\ Below w.heap.size w W
theorem set_last (ps : List (List UInt8)) (cur x : List UInt8) : ((ps ++ [cur]).map S).set ps.length (S x) = (ps ++ [x]).map S := by
 simp
theorem RspI.step {w wr : World} {s : List UInt8} {ps : List (List UInt8)} {cur x : List UInt8} {g cap k : Nat} (d : Nat) (hb : Below w.heap.size w wr)
  (hr : Row (fun g => w.heap.size <= g) 9 1 (.slice (some ⟨g, 0, none⟩) (ps.length + 1) cap) (ps.length + 1) (((ps ++ [cur]).map S).set ps.length (S x)) (wr.setCell ⟨g, ps.length, none⟩ (S x)).drew)
  (hk : k + d <= s.length) (hx : x.length <= k + d) (hpl : ps.length <= k) (_ : 0 <= k) (hs : Lb.split s = (Lb.splitF x (s.drop (k + d))).map (ps ++ ·)) :
  RspI w s (.slice (some ⟨g, 0, none⟩) (ps.length + 1) cap) (.int .i64 ((k : Int) + (d : Nat))) (wr.setCell ⟨g, ps.length, none⟩ (S x)).drew := by
 rw [set_last] at hr
 exact ⟨ps, x, k + d, hk, by go_num, by omega, hx, hs, hr, (hb.setCell (p := ⟨g, ps.length, none⟩) (hr.2 g rfl) _).drew⟩
end Go.Proofs.YtgmbefolgppmdaaGreatDoor
end
section
namespace Go.Proofs.YtgmbefolgppmdaaGreatDoor.Lb
end Go.Proofs.YtgmbefolgppmdaaGreatDoor.Lb
end
section
namespace Go.Proofs.YtgmbefolgppmdaaGreatDoor
open Go.RowKit Go.Shelf
set_option maxRecDepth 100000
theorem fold_length (l : List UInt8) : (Lb.fold l).length = l.length := by simp [Lb.fold]
theorem below5 {w w1 w2 : World} (h : Below w.heap.size w w1) (k : Below w1.heap.size w1 w2) : Below w.heap.size w w2 := h.trans (k.mono h.size)
def Lb.jn : List (List UInt8) -> List UInt8
 | [] => []
 | x :: r => Lb.text x ++ r.flatMap fun y => 46 :: Lb.text y
theorem cell_lt {W : World} {p : Addr} {v : Value} (h : W.cell? p = some v) : p.block < W.heap.size := by
 rcases Nat.lt_or_ge p.block W.heap.size with h' | h'
 ·exact h'
 ·simp [World.cell?, Array.getElem?_eq_none h'] at h
end Go.Proofs.YtgmbefolgppmdaaGreatDoor
end
