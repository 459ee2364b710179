/- Zones: the laws' own 'known'. -/
import Derived.Test.YtgmbefolgppmdaaGreatDoorKRcO
import Derived.Test.YtgmbefolgppmdaaGreatDoorKZnD
namespace Go.Proofs.YtgmbefolgppmdaaGreatDoor
open Go.RowKit Go.Shelf Go.Sort
set_option maxRecDepth 100000
theorem sl_blk {b : Nat} {cs : List Value} {t : TypeId} {W : World} (h : Blk b cs.toArray t W) (hl : cs.length <= 1000) : Sl (.slice (some ⟨b, 0, none⟩) cs.length cs.length) cs W := by
 refine ⟨_, _, rfl, Nat.le_refl _, by unfold maxLen; omega, (fun h => by cases h), fun j hj => ⟨_, rfl, ?_⟩⟩
 have hadd : (⟨b, 0, none⟩ : Addr).add j = ⟨b, j, none⟩ := by unfold Addr.add; split <;> simp_all
 rw [hadd, h.cell j]
 simp [hj]
theorem rd_blk {b : Nat} (l : List (List UInt8)) {W : World} (h : Blk b (l.map S).toArray 9 W) (hl : l.length <= 1000) : Rd (.slice (some ⟨b, 0, none⟩) l.length l.length) l W := by
 have := sl_blk h (by simpa using hl)
 rw [List.length_map] at this
 exact sl_rd this
theorem nb_ok {l : List (List UInt8)} (h : (decide (l.length <= 1000) && l.all fun x => decide (x.length <= 1000)) = true) : NB l := by
 simp only [Bool.and_eq_true, decide_eq_true_eq, List.all_eq_true] at h; exact h
theorem recs_blk {W : World} {b : Nat} (l : List (El W)) (h : Blk b (l.flatMap encE).toArray 31 W) (hl : l.length <= 100) : RecsRd (.slice (some ⟨b, 0, none⟩) l.length l.length) (l.map (·.1)) W := by
 refine ⟨fun x hx => ?_, some ⟨b, 0, none⟩, l.length, by rw [List.length_map], by rw [List.length_map]; exact Nat.le_refl _, by unfold maxLen; omega, (fun h => by cases h), fun j hj => ⟨_, rfl, ?_⟩⟩
 ·obtain ⟨y, _, rfl⟩ := List.mem_map.1 hx
  exact y.2.1
 ·have hadd : (⟨b, 0, none⟩ : Addr).add j = ⟨b, j, none⟩ := by unfold Addr.add; split <;> simp_all
  have hj' := hj
  rw [encP_map] at hj'
  rw [hadd, h.cell j, <- List.getElem?_eq_getElem hj, encP_map]
  simp
abbrev Zn.kr : List Rc.PRec := [⟨[[111]], 0, 2, [[[110, 115], [115], [111]]], [], [], []⟩, ⟨[[83], [111]], 0, 2, [[[110, 115], [115], [111]]], [], [], []⟩, ⟨[[110, 115], [115], [111]], 0, 1, [], [], [], [1, 2, 3, 4]⟩, ⟨[[42], [119], [111]], 0, 1, [], [], [], [1, 2, 3, 4]⟩]
end Go.Proofs.YtgmbefolgppmdaaGreatDoor
