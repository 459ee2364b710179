/- Sets of records: all of them. -/
import Derived.Test.YtgmbefolgppmdaaGreatDoorKGr
namespace Go.Proofs.YtgmbefolgppmdaaGreatDoor
open Go.RowKit Go.Shelf Go.Sort
set_option maxRecDepth 100000
attribute [local go_sem] Oper.semAt_some
def grpE {w : World} : Nat -> List (El w) -> List (List (El w))
 | 0, _ => []
 | _, [] => []
 | f + 1, x :: l => (x :: l).take (Rs.run x.1.2 (plE (x :: l))) :: grpE f ((x :: l).drop (Rs.run x.1.2 (plE (x :: l))))
def grp {w : World} (l : List (El w)) : List (List (El w)) := grpE l.length l
def SetC {w : World} (cs : List Value) (k : List (El w)) (W : World) : Prop :=
 ∃ x xs po no qo od cd, k = x :: xs /\ cs = [.slice po no qo, .int .i64 x.1.2.type, .int .u32 ((Rs.ttl x.1.2 (plE k) : Nat) : Int), .slice od k.length cd] /\ Rd (.slice po no qo) x.1.2.owner w /\ DatsRd (.slice od k.length cd) k W
theorem SetC.keep {w : World} {cs : List Value} {k : List (El w)} {W W' : World} (h : SetC cs k W) (hk : CellsKept W W') : SetC cs k W' := by
 obtain ⟨x, xs, po, no, qo, od, cd, h1, h2, h3, h4⟩ := h
 exact ⟨x, xs, po, no, qo, od, cd, h1, h2, h3, h4.cells_kept hk⟩
def SetsRd {w : World} (v : Value) (ks : List (List (El w))) (W : World) : Prop :=
 ∃ css, GRd 4 v css W /\ css.length = ks.length /\ ∀ i (h : i < css.length) (h' : i < ks.length), SetC css[i] ks[i] W
theorem SetsRd.below {w : World} {v : Value} {ks : List (List (El w))} {W W' : World} (h : SetsRd v ks W) (hb : Below W.heap.size W W') : SetsRd v ks W' := by
 obtain ⟨css, h1, h2, h3⟩ := h
 exact ⟨css, h1.below hb, h2, fun i hi hi' => (h3 i hi hi').keep (CellsKept.below hb)⟩
theorem SetC.ok {w : World} {cs : List Value} {k : List (El w)} {W : World} (h : SetC cs k W) : cs.length = 4 /\ ∀ u ∈ cs, u.oneCell' = true := by
 obtain ⟨x, xs, po, no, qo, od, cd, h1, rfl, h3, h4⟩ := h
 refine ⟨rfl, fun u hu => ?_⟩
 simp only [List.mem_cons, List.not_mem_nil, or_false] at hu
 rcases hu with rfl | rfl | rfl | rfl <;> rfl
def SetT {w : World} (bl : Nat) (cs : List Value) (k : List (El w)) (W : World) : Prop :=
 SetC cs k W /\ ∀ po t tt od n cd, cs = [po, t, tt, .slice od n cd] -> ∀ a, od = some a -> bl < a.block /\ ∃ cur f, W.heap[a.block]? = some (.cells cur 29 f)
def DatKept (bl : Nat) (W W' : World) : Prop := ∀ (k : Nat) (c : Array Value) (f : Nat × Nat), bl < k -> W.heap[k]? = some (Obj.cells c 29 f) -> W'.heap[k]? = some (Obj.cells c 29 f)
theorem DatKept.trans {bl : Nat} {A B C : World} (h : DatKept bl A B) (k : DatKept bl B C) : DatKept bl A C := fun i c f hi hk => k i c f hi (h i c f hi hk)
theorem DatKept.grown {bl : Nat} {W W' : World} {row : Option Nat} (h : W.grownBy W' row) (hr : ∀ g, row = some g -> g <= bl \/ ∃ c t f, W.heap[g]? = some (.cells c t f) /\ t ≠ 29) : DatKept bl W W' := fun k c f hk0 hk => by
 refine (h.block k (Array.getElem?_eq_some_iff.1 hk).1 (fun e => ?_)).trans hk
 rcases hr k e.symm with h0 | ⟨c', t, f', h1, h2⟩
 ·omega
 ·rw [h1] at hk; cases hk; exact h2 rfl
theorem DatKept.set {bl b o : Nat} (hb : b <= bl) (W : World) (u : Value) : DatKept bl W (W.setCell ⟨b, o, none⟩ u) := fun k c f hk0 hk => (Below.heap_setCell _ _ _ _ (show k ≠ b by omega)).trans hk
theorem SetT.keep {w : World} {bl : Nat} {cs : List Value} {k : List (El w)} {W W' : World} (h : SetT bl cs k W) (hk : DatKept bl W W') : SetT bl cs k W' := by
 obtain ⟨⟨x, xs, po, no, qo, od, cd, h1, h2, h3, h4⟩, h5⟩ := h
 refine ⟨⟨x, xs, po, no, qo, od, cd, h1, h2, h3, ?_⟩, fun po t tt od n cd e a ha => ?_⟩
 ·obtain ⟨o', cap', e0, d1, d2, d3, d4⟩ := h4
  refine ⟨o', cap', e0, d1, d2, d3, fun j hj => ?_⟩
  obtain ⟨a, ha, hc⟩ := d4 j hj
  cases e0
  obtain ⟨h0, cur, f, hb⟩ := h5 _ _ _ _ _ _ h2 a ha
  refine ⟨a, ha, ?_⟩
  rw [<- hc]
  exact World.cell?_of_block (by rw [add_block, hb]; exact hk _ _ _ h0 hb)
 ·obtain ⟨h0, cur, f, hb⟩ := h5 _ _ _ _ _ _ e a ha
  exact ⟨h0, cur, f, hk _ _ _ h0 hb⟩
theorem Row.typ {R : Nat -> Prop} {e : TypeId} {sz n g : Nat} {v : Value} {xs : List Value} {W : World} (h : Row R e sz v n xs W) (hg : v.ownBlock = some g) : ∃ c f, W.heap[g]? = some (.cells c e f) := by
 obtain ⟨⟨_, ho⟩, _⟩ := h
 rcases ho with ⟨rfl, _⟩ | ⟨g', cap', cur, rfl, _, hh, _⟩
 ·simp [Value.ownBlock] at hg
 ·simp only [Value.ownBlock, Option.some.injEq] at hg; subst hg; exact ⟨_, _, hh⟩
end Go.Proofs.YtgmbefolgppmdaaGreatDoor
