/- Zones: made, of records that were there before; small lemmas on blocks and rows. -/
import Derived.Test.YtbgbahllhjelgaaGreatDoorKGr
import Derived.Test.YtbgbahllhjelgaaGreatDoorKRsA
namespace Go.Proofs.YtbgbahllhjelgaaGreatDoor
open Go.RowKit Go.Shelf Go.Sort
set_option maxRecDepth 100000
theorem RecsRd.shape {v : Value} {l : List RP} {w : World} (h : RecsRd v l w) : ∃ o cap, v = .slice o l.length cap /\ l.length <= cap /\ cap <= 9223372036854775807 := by
 obtain ⟨_, o, cap, h, h1, h2, _⟩ := h
 unfold maxLen at h2
 exact ⟨o, cap, h, h1, by omega⟩
section
variable {F : Fence} {n : Nat} {P : Program} {ops : Array Oper} {Q : Exit -> Act -> World -> Prop}
theorem opH2 (i : Nat) {oi : Oper} {fuel : Nat} {listed : Array Bool} {a : Act} {w : World} {N : List Nat} {S : World -> Prop} (hi : ops.toList[i]? = some oi)
  (h : ∀ K : Act -> World -> Prop, (∀ a' w', (i ∈ N -> S w') -> wpAnyH F n P ops (NoPan Q) N S fuel (listed.setIfInBounds i true) a' w' -> K a' w') ->
   wpListIn F n P ops (Exit.then K (NoPan Q)) [oi] a w) :
  wpOpIn F n P ops (NoPan Q) i (fun a' w' => (i ∈ N -> S w') /\ wpAnyH F n P ops (NoPan Q) N S fuel (listed.setIfInBounds i true) a' w') a w := by
 replace hi : ops[i]? = some oi := by rw [<- Array.getElem?_toList]; exact hi
 have := h _ (fun a' w' h1 h2 => (⟨h1, h2⟩ : (i ∈ N -> S w') /\ wpAnyH F n P ops (NoPan Q) N S fuel (listed.setIfInBounds i true) a' w'))
 unfold wpOpIn
 simp only [wpListIn] at this
 simp only [hi]
 by_cases hw : Region.wanted oi (yielded ops a.tmps) = true
 ·rw [if_pos hw] at this ⊢
  refine ⟨this.1, ?_⟩
  have h2 := this.2
  generalize (oi.semAt F.round a.eval).run P w = r at *
  cases r with
  | ok x w' =>
   cases x <;> simp only [Oper.uponIn] at h2 ⊢
   case value u => exact h2
   case skip => exact h2
   case defer d => exact h2
   case enter f args =>
    refine ⟨h2.1, CallsIn.mono h2.2 fun e w'' he => ?_⟩
    cases e with
    | returned u => exact he
    | panicked c => exact he
    | outgrown => exact letsOut_then he
   case row row args => exact ⟨h2.1, RowsIn.mono h2.2 fun u w'' he => he⟩
   case round l f tmps assign body =>
    refine ⟨h2.1, RoundIn.mono h2.2 fun e w'' he => ?_⟩
    cases e with
    | returned u => exact he
    | panicked c => exact he
    | outgrown => exact letsOut_then he
  | halt x w' => cases x <;> simp only [Oper.uponIn] at h2 ⊢ <;> exact h2
 ·rw [if_neg hw] at this ⊢
  exact this
theorem twoH2 (i j : Nat) {oi oj : Oper} {fuel : Nat} {listed : Array Bool} {a : Act} {w : World} {N : List Nat} {S : World -> Prop} (hi : ops.toList[i]? = some oi) (hj : ops.toList[j]? = some oj)
  (hr : Region.ready .any ops listed = [i, j])
  (h1 : ∀ K : Act -> World -> Prop, (∀ a' w', (i ∈ N -> S w') -> wpAnyH F n P ops (NoPan Q) N S fuel (listed.setIfInBounds i true) a' w' -> K a' w') -> wpListIn F n P ops (Exit.then K (NoPan Q)) [oi] a w)
  (h2 : ∀ K : Act -> World -> Prop, (∀ a' w', (j ∈ N -> S w') -> wpAnyH F n P ops (NoPan Q) N S fuel (listed.setIfInBounds j true) a' w' -> K a' w') -> wpListIn F n P ops (Exit.then K (NoPan Q)) [oj] a w) :
  wpAnyH F n P ops (NoPan Q) N S (fuel + 1) listed a w := by
 refine ⟨fun h0 => (by rw [hr] at h0; cases h0), fun k hk => ?_⟩
 rw [hr] at hk
 simp only [List.mem_cons, List.not_mem_nil, or_false] at hk
 rcases hk with rfl | rfl
 ·exact opH2 k hi h1
 ·exact opH2 k hj h2
end
end Go.Proofs.YtbgbahllhjelgaaGreatDoor
