/- The walk of TokBrackets; slices of texts, of bools, among the arguments. -/
import Derived.Test.YticljagcigiejaaTkR
import Derived.SliceStrings
import Derived.Deep.Grids
namespace Go.Proofs.Yticljagcigiejaa
open Go.RowKit Go.Shelf Go.ChangeShapes Go.WideShapes
set_option maxRecDepth 100000

theorem add_block' (a : Addr) (j : Nat) : (a.add j).block = a.block := by unfold Addr.add; split <;> rfl
/-- a slice of cells, each as f says -/
def CRd (f : Nat → Value) (n : Nat) (v : Value) (W : World) : Prop :=
  ∃ o cap, v = .slice o n cap ∧ n ≤ cap ∧ cap ≤ 9223372036854775807 ∧ ∀ j, j < n → ∃ a, o = some a ∧ a.block < W.heap.size ∧ W.cell? (a.add j) = some (f j)
def StrRd (l : List (List UInt8)) (v : Value) (W : World) : Prop := CRd (fun j => S (l.getD j [])) l.length v W
def BoolRd (l : List Bool) (v : Value) (W : World) : Prop := CRd (fun j => .bool (l.getD j false)) l.length v W
theorem CRd.below {f n v} {W W' : World} (h : CRd f n v W) (hb : Below W.heap.size W W') : CRd f n v W' := by
  obtain ⟨o, cap, e, h1, h2, h3⟩ := h
  refine ⟨o, cap, e, h1, h2, fun j hj => ?_⟩
  obtain ⟨a, ha, hl, hc⟩ := h3 j hj
  exact ⟨a, ha, by have := hb.size; omega, (World.cell?_of_block (by rw [add_block']; exact hb.block _ hl)).trans hc⟩
theorem open_S {H : Type} {enc : TypeId × Value → H} {W : World} {base : Nat} {sp : Nat → Bool} {held : Bool} {r : Reach} {b0 : Nat} {v : Value} {d : DataW H} {ps : List MemPlace} (hval : Value.okWide Try.prog W r b0 40 v) (hd : DataW.Trod enc Try.prog W base sp held 40 v d ps) : ∃ l, StrRd l v W := by
  obtain ⟨a0, len, cap, rfl⟩ := okWide_slice Try.underlying40 hval
  obtain ⟨fuel, hf⟩ := hd
  rcases open_strings Try.underlying40 Try.underlying9 (by kernel_rfl) hf with ⟨hcs, hx⟩ | ⟨a, len', cap', ss, hcs, _, hl, hm, hz, hx, hcell, hws⟩
  · simp [Value.cells] at hcs
    obtain ⟨rfl, rfl, rfl⟩ := hcs
    exact ⟨[], none, 0, rfl, Nat.le_refl _, by omega, fun j h => by simp at h⟩
  · simp [Value.cells] at hcs
    obtain ⟨rfl, rfl, rfl⟩ := hcs
    have hlen : len ≤ ss.length := by rw [hz]; split <;> omega
    have hll : ((ss.take len).map fun s => s.data.toList).length = len := by simp; omega
    refine ⟨(ss.take len).map fun s => s.data.toList, some a, cap, by rw [hll], by rw [hll]; exact hl, by unfold maxLen at hm; omega, fun j hj => ⟨a, rfl, ?_, ?_⟩⟩
    · have := World.block_lt_of_cell? W _ (hcell j (by omega))
      rwa [add_block'] at this
    · rw [hll] at hj
      rw [hcell j (by omega)]
      simp [S, List.getD, List.getElem?_take, hj, List.getElem?_eq_getElem (show j < ss.length by omega)]
theorem open_B {H : Type} {enc : TypeId × Value → H} {W : World} {base : Nat} {held : Bool} {r : Reach} {b0 : Nat} {v : Value} {d : DataW H} {ps : List MemPlace} (hval : Value.okWide Try.prog W r b0 42 v) (hd : DataW.Trod enc Try.prog W base (fun _ => true) held 42 v d ps) : ∃ l, BoolRd l v W := by
  obtain ⟨a0, len, cap, rfl⟩ := okWide_slice Try.underlying42 hval
  obtain ⟨fuel, hf⟩ := hd
  rcases Go.Deep.open_bools Try.underlying42 Try.underlying4 (by kernel_rfl) hf with ⟨hcs, hx⟩ | ⟨a, len', cap', B, hcs, _, hl, hm, hx, hcell⟩
  · simp [Value.cells] at hcs
    obtain ⟨rfl, rfl, rfl⟩ := hcs
    exact ⟨[], none, 0, rfl, Nat.le_refl _, by omega, fun j h => by simp at h⟩
  · simp [Value.cells] at hcs
    obtain ⟨rfl, rfl, rfl⟩ := hcs
    have hll : ((List.range len).map B).length = len := by simp
    refine ⟨(List.range len).map B, some a, cap, by rw [hll], by rw [hll]; exact hl, by unfold maxLen at hm; omega, fun j hj => ⟨a, rfl, ?_, ?_⟩⟩
    · rw [hll] at hj
      have := World.block_lt_of_cell? W _ (hcell j (by omega))
      rwa [add_block'] at this
    · rw [hll] at hj
      rw [hcell j (by omega)]
      simp [List.getD, List.getElem?_map, List.getElem?_range hj]

namespace Tk
def pr : List (List UInt8) → List Bool → List (List UInt8 × Bool)
  | [], _ => []
  | w :: l, [] => (w, false) :: pr l []
  | w :: l, b :: a => (w, b) :: pr l a
theorem pr_drop : ∀ (l : List (List UInt8)) (a : List Bool) (i : Nat), (pr l a).drop i = pr (l.drop i) (a.drop i)
  | _, _, 0 => by simp
  | [], a, i + 1 => by simp [pr]
  | w :: l, [], i + 1 => by simp only [pr, List.drop_succ_cons]; rw [pr_drop l [] i]; simp
  | w :: l, b :: a, i + 1 => by simp only [pr, List.drop_succ_cons]; exact pr_drop l a i
theorem pr_fst : ∀ (l : List (List UInt8)) (a : List Bool), ((pr l a).map fun x => (x.1, false)) = l.map fun w => (w, false)
  | [], _ => rfl
  | w :: l, [] => by simp only [pr, List.map_cons]; rw [pr_fst l []]
  | w :: l, b :: a => by simp only [pr, List.map_cons]; rw [pr_fst l a]
theorem pr_mem : ∀ (l : List (List UInt8)) (a : List Bool) (x : List UInt8 × Bool), x ∈ pr l a → x.1 ∈ l
  | [], _, x, h => by simp [pr] at h
  | w :: l, [], x, h => by
    simp only [pr, List.mem_cons] at h ⊢
    rcases h with rfl | h
    · exact .inl rfl
    · exact .inr (pr_mem l [] x h)
  | w :: l, b :: a, x, h => by
    simp only [pr, List.mem_cons] at h ⊢
    rcases h with rfl | h
    · exact .inl rfl
    · exact .inr (pr_mem l a x h)
theorem pr_at (l : List (List UInt8)) (a : List Bool) (i : Nat) (h : i < l.length) : (pr l a).drop i = (l[i], a.getD i false) :: (pr l a).drop (i + 1) := by
  rw [pr_drop, pr_drop, List.drop_eq_getElem_cons h]
  rcases ha : a.drop i with _ | ⟨b, q⟩
  · have hl : a.length ≤ i := by
      have := congrArg List.length ha
      simp at this; omega
    rw [List.drop_of_length_le (show a.length ≤ i + 1 by omega)]
    simp [pr, List.getD, List.getElem?_eq_none hl]
  · have hl : i < a.length := by
      have := congrArg List.length ha
      simp at this; omega
    rw [List.drop_eq_getElem_cons hl] at ha
    simp only [List.cons.injEq] at ha
    obtain ⟨rfl, rfl⟩ := ha
    simp [pr, List.getD, List.getElem?_eq_getElem hl]
/-- what has been laid of the text before word i -/
def Laid (ps : List (List UInt8 × Bool)) (t : List UInt8) (i : Nat) : Prop := 120 :: 32 :: 40 :: bt ps = t ++ bt (ps.drop i)
theorem Laid.start (ps : List (List UInt8 × Bool)) : Laid ps [120, 32, 40] 0 := by simp [Laid]
theorem Laid.step {ps t i} {w : List UInt8} {b : Bool} (h : Laid ps t i) (hd : ps.drop i = (w, b) :: ps.drop (i + 1)) : Laid ps (t ++ w ++ (if b then [32, 59, 32, 121, 10] else [32])) (i + 1) := by
  unfold Laid at h ⊢
  rw [h, hd]
  cases b <;> simp [bt]
end Tk
end Go.Proofs.Yticljagcigiejaa
