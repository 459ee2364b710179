/- Sets of records: where a set leads to: the walk. -/
import Derived.Test.YtneghhbclefmoaaGreatLGr
section
namespace Go.Proofs.YtneghhbclefmoaaGreat
open Go.RowKit Go.Shelf Go.Sort
set_option maxRecDepth 100000

theorem DatsRd.el {w : World} {o : Option Addr} {n cap : Nat} {l : List (El w)} {W : World} (h : DatsRd (.slice o n cap) l W) : ∀ W', Below W.heap.size W W' → ∀ (i : Nat) (hi : i < l.length) (c0 c1 c2 c3 c4 : Value), encD l[i] = [c0, c1, c2, c3, c4] → ∃ a, o = some a ∧
    W'.cell? (a.add (i * 5)) = some c0 ∧ W'.cell? ⟨(a.add (i * 5)).block, (a.add (i * 5)).off + 1, none⟩ = some c1 ∧ W'.cell? ⟨(a.add (i * 5)).block, (a.add (i * 5)).off + 2, none⟩ = some c2 ∧ W'.cell? ⟨(a.add (i * 5)).block, (a.add (i * 5)).off + 3, none⟩ = some c3 ∧ W'.cell? ⟨(a.add (i * 5)).block, (a.add (i * 5)).off + 4, none⟩ = some c4 := by
  intro W' hb i hi c0 c1 c2 c3 c4 hx
  obtain ⟨a, ha, h0, h1⟩ := (h.grd.below hb).at (by decide) i (by simpa using hi)
  simp only [List.getElem_map, hx] at h0 h1
  exact ⟨a, ha, h0, h1 1 (by decide) (by decide), h1 2 (by decide) (by decide), h1 3 (by decide) (by decide), h1 4 (by decide) (by decide)⟩
end Go.Proofs.YtneghhbclefmoaaGreat
end
section
namespace Go.Proofs.YtneghhbclefmoaaGreat
open Go.RowKit Go.Shelf Go.Sort
set_option maxRecDepth 100000

namespace Rs
open Rc
def sameDats : List PRec → List PRec → Bool
  | [], [] => true
  | x :: a, y :: b => (cmpD x y == 0) && sameDats a b
  | _, _ => false
end Rs
end Go.Proofs.YtneghhbclefmoaaGreat
end
section
namespace Go.Proofs.YtneghhbclefmoaaGreat
open Go.RowKit Go.Shelf Go.Sort
set_option maxRecDepth 100000
attribute [local go_sem] Oper.semAt_some

/-- records of one owner and type, one row behind the other -/
def grpE {w : World} : Nat → List (El w) → List (List (El w))
  | 0, _ => []
  | _, [] => []
  | f + 1, x :: l => (x :: l).take (Rs.run x.1.2 (plE (x :: l))) :: grpE f ((x :: l).drop (Rs.run x.1.2 (plE (x :: l))))
def grp {w : World} (l : List (El w)) : List (List (El w)) := grpE l.length l
theorem run_posE {w : World} (x : El w) (l : List (El w)) : 0 < Rs.run x.1.2 (plE (x :: l)) := Rs.run_pos _ _
theorem run_leE {w : World} (x : El w) (l : List (El w)) : Rs.run x.1.2 (plE (x :: l)) ≤ (x :: l).length := by
  have := Rs.run_le x.1.2 (plE (x :: l))
  simpa [plE] using this
theorem grpE_fuel {w : World} : ∀ (f m : Nat) (l : List (El w)), l.length ≤ f → l.length ≤ m → grpE f l = grpE m l
  | 0, m, l, h, _ => by
    have : l = [] := List.length_eq_zero_iff.1 (by omega)
    subst this; cases m <;> rfl
  | f + 1, m, [], _, _ => by cases m <;> rfl
  | f + 1, 0, x :: l, _, h => by simp at h
  | f + 1, m + 1, x :: l, h, h' => by
    have hp := run_posE x l
    have h1 : ((x :: l).drop (Rs.run x.1.2 (plE (x :: l)))).length ≤ l.length := by rw [List.length_drop, List.length_cons]; omega
    simp only [List.length_cons] at h h'
    show _ :: grpE f _ = _ :: grpE m _
    rw [grpE_fuel f m _ (Nat.le_trans h1 (by omega)) (Nat.le_trans h1 (by omega))]
theorem grp_cons {w : World} (x : El w) (l : List (El w)) : grp (x :: l) = (x :: l).take (Rs.run x.1.2 (plE (x :: l))) :: grp ((x :: l).drop (Rs.run x.1.2 (plE (x :: l)))) := by
  have hp := run_posE x l
  show _ :: grpE l.length _ = _ :: grpE _ _
  rw [grpE_fuel l.length _ _ (by rw [List.length_drop, List.length_cons]; omega) (Nat.le_refl _)]
/-- a set, in four cells -/
def SetC {w : World} (cs : List Value) (k : List (El w)) (W : World) : Prop :=
  ∃ x xs po no qo od cd, k = x :: xs ∧ cs = [.slice po no qo, .int .i64 x.1.2.type, .int .u32 ((Rs.ttl x.1.2 (plE k) : Nat) : Int), .slice od k.length cd] ∧ Rd (.slice po no qo) x.1.2.owner w ∧ DatsRd (.slice od k.length cd) k W
theorem SetC.keep {w : World} {cs : List Value} {k : List (El w)} {W W' : World} (h : SetC cs k W) (hk : CellsKept W W') : SetC cs k W' := by
  obtain ⟨x, xs, po, no, qo, od, cd, h1, h2, h3, h4⟩ := h
  exact ⟨x, xs, po, no, qo, od, cd, h1, h2, h3, h4.cells_kept hk⟩
/-- a value that reads as a row of sets -/
def SetsRd {w : World} (v : Value) (ks : List (List (El w))) (W : World) : Prop :=
  ∃ css, GRd 4 v css W ∧ css.length = ks.length ∧ ∀ i (h : i < css.length) (h' : i < ks.length), SetC css[i] ks[i] W
theorem SetsRd.below {w : World} {v : Value} {ks : List (List (El w))} {W W' : World} (h : SetsRd v ks W) (hb : Below W.heap.size W W') : SetsRd v ks W' := by
  obtain ⟨css, h1, h2, h3⟩ := h
  exact ⟨css, h1.below hb, h2, fun i hi hi' => (h3 i hi hi').keep (CellsKept.below hb)⟩
theorem SetC.ok {w : World} {cs : List Value} {k : List (El w)} {W : World} (h : SetC cs k W) : cs.length = 4 ∧ ∀ u ∈ cs, u.oneCell' = true := by
  obtain ⟨x, xs, po, no, qo, od, cd, h1, rfl, h3, h4⟩ := h
  refine ⟨rfl, fun u hu => ?_⟩
  simp only [List.mem_cons, List.not_mem_nil, or_false] at hu
  rcases hu with rfl | rfl | rfl | rfl <;> rfl
/-- .. and its data lie in a block of data, behind bl -/
def SetT {w : World} (bl : Nat) (cs : List Value) (k : List (El w)) (W : World) : Prop :=
  SetC cs k W ∧ ∀ po t tt od n cd, cs = [po, t, tt, .slice od n cd] → ∀ a, od = some a → bl < a.block ∧ ∃ cur f, W.heap[a.block]? = some (.cells cur 88 f)
/-- what is not a row of data, or lies ahead of bl, may turn -/
def DatKept (bl : Nat) (W W' : World) : Prop := ∀ (k : Nat) (c : Array Value) (f : Nat × Nat), bl < k → W.heap[k]? = some (Obj.cells c 88 f) → W'.heap[k]? = some (Obj.cells c 88 f)
theorem DatKept.of_cells {bl : Nat} {W W' : World} (h : CellsKept W W') : DatKept bl W W' := fun k c f _ hk => h k c _ f hk
theorem DatKept.trans {bl : Nat} {A B C : World} (h : DatKept bl A B) (k : DatKept bl B C) : DatKept bl A C := fun i c f hi hk => k i c f hi (h i c f hi hk)
theorem DatKept.grown {bl : Nat} {W W' : World} {row : Option Nat} (h : W.grownBy W' row) (hr : ∀ g, row = some g → g ≤ bl ∨ ∃ c t f, W.heap[g]? = some (.cells c t f) ∧ t ≠ 88) : DatKept bl W W' := fun k c f hk0 hk => by
  refine (h.block k (Array.getElem?_eq_some_iff.1 hk).1 (fun e => ?_)).trans hk
  rcases hr k e.symm with h0 | ⟨c', t, f', h1, h2⟩
  · omega
  · rw [h1] at hk; cases hk; exact h2 rfl
theorem DatKept.set {bl b o : Nat} (hb : b ≤ bl) (W : World) (u : Value) : DatKept bl W (W.setCell ⟨b, o, none⟩ u) := fun k c f hk0 hk => (Below.heap_setCell _ _ _ _ (show k ≠ b by omega)).trans hk
theorem SetT.keep {w : World} {bl : Nat} {cs : List Value} {k : List (El w)} {W W' : World} (h : SetT bl cs k W) (hk : DatKept bl W W') : SetT bl cs k W' := by
  obtain ⟨⟨x, xs, po, no, qo, od, cd, h1, h2, h3, h4⟩, h5⟩ := h
  refine ⟨⟨x, xs, po, no, qo, od, cd, h1, h2, h3, ?_⟩, fun po t tt od n cd e a ha => ?_⟩
  · obtain ⟨o', cap', e0, d1, d2, d3, d4⟩ := h4
    refine ⟨o', cap', e0, d1, d2, d3, fun j hj => ?_⟩
    obtain ⟨a, ha, hc⟩ := d4 j hj
    cases e0
    obtain ⟨h0, cur, f, hb⟩ := h5 _ _ _ _ _ _ h2 a ha
    refine ⟨a, ha, ?_⟩
    rw [← hc]
    exact World.cell?_of_block (by rw [add_block, hb]; exact hk _ _ _ h0 hb)
  · obtain ⟨h0, cur, f, hb⟩ := h5 _ _ _ _ _ _ e a ha
    exact ⟨h0, cur, f, hk _ _ _ h0 hb⟩
theorem Row.typ {R : Nat → Prop} {e : TypeId} {sz n g : Nat} {v : Value} {xs : List Value} {W : World} (h : Row R e sz v n xs W) (hg : v.ownBlock = some g) : ∃ c f, W.heap[g]? = some (.cells c e f) := by
  obtain ⟨⟨_, ho⟩, _⟩ := h
  rcases ho with ⟨rfl, _⟩ | ⟨g', cap', cur, rfl, _, hh, _⟩
  · simp [Value.ownBlock] at hg
  · simp only [Value.ownBlock, Option.some.injEq] at hg; subst hg; exact ⟨_, _, hh⟩
/-- memory while the sets are gone over -/
structure SetsM {w : World} (B bl : Nat) (w0 ws : World) (gs : List (List (El w))) (W : World) : Prop where
  ob : ∃ (css : List (List Value)) (v : Value), Box B 164 v W ∧ Row (fun g => ws.heap.size ≤ g) 116 4 v css.length css.flatten W ∧ css.length = gs.length ∧ ∀ i (h : i < css.length) (h' : i < gs.length), SetT bl css[i] gs[i] W
  below : Below B w0 W
  size : ws.heap.size ≤ W.heap.size
theorem SetsM.put {w : World} {B bl w0 ws L} {gs : List (List (El w))} (hL : ws.heap.size ≤ L) (hB : B ≤ ws.heap.size) {A : World} {r : Loop} (h : SetsM B bl w0 ws gs A) (hr : A.heap[L]? = some (.loop r)) (o : Obj) : SetsM B bl w0 ws gs (A.putObj L o) := by
  obtain ⟨css, v, h1, h2, h3, h4⟩ := h.ob
  exact ⟨⟨css, v, h1.put hr o, h2.put hr o, h3, fun i hi hi' => (h4 i hi hi').keep (.of_cells (CellsKept.put hr o))⟩, below_put h.below (by omega) hr (by have := h.size; omega) o, by simpa using h.size⟩
theorem SetsM.on {w : World} {B bl w0 ws} {gs : List (List (El w))} {A W : World} (h : SetsM B bl w0 ws gs A) (hb : Below A.heap.size A W) (hBA : B ≤ A.heap.size) : SetsM B bl w0 ws gs W := by
  obtain ⟨css, v, h1, h2, h3, h4⟩ := h.ob
  exact ⟨⟨css, v, h1.below hb, h2.below hb, h3, fun i hi hi' => (h4 i hi hi').keep (.of_cells (CellsKept.below hb))⟩, h.below.trans (hb.mono hBA), by have := hb.size; have := h.size; omega⟩
theorem SetsM.st {w : World} {B bl w0 ws} {gs : List (List (El w))} {A W : World} (h : SetsM B bl w0 ws gs A) (hst : setSt bl A W) (hbl : B < bl) (hws : bl < ws.heap.size) : SetsM B bl w0 ws gs W := by
  obtain ⟨css, v, h1, h2, h3, h4⟩ := h.ob
  refine ⟨⟨css, v, (hst.1.block B h1.lt (fun e => by cases e; omega)).trans h1, ?_, h3, fun i hi hi' => (h4 i hi hi').keep (.grown hst.1 (fun g hg => by cases hg; exact .inl (Nat.le_refl _)))⟩, h.below.grown hst.1 (by have := h1.lt; omega) (fun g hg => by cases hg; omega), by have := hst.1.size; have := h.size; omega⟩
  exact h2.kept fun g c t f hv hg => (hst.1.block g (Array.getElem?_eq_some_iff.1 hg).1 (fun e => by cases e; have := h2.2 _ hv; omega)).trans hg
end Go.Proofs.YtneghhbclefmoaaGreat
end
section
namespace Go.Proofs.YtneghhbclefmoaaGreat
open Go.RowKit Go.Shelf Go.Sort
set_option maxRecDepth 100000
attribute [local go_sem] Oper.semAt_some

section
variable {w : World}
def SetsR (l : List (El w)) (w0 : World) (e : Ending) (w' : World) : Prop :=
  ∃ (c : List (El w)) (v : Value), plE c = Rc.canon (plE l) ∧ c.length ≤ l.length ∧ e = .returned v ∧ SetsRd v (grp c) w' ∧ Below w0.heap.size w0 w'
theorem SetsM.rd {B bl : Nat} {w0 ws : World} {gs : List (List (El w))} {W : World} {v : Value} {css : List (List Value)} (h2 : Row (fun g => ws.heap.size ≤ g) 116 4 v css.length css.flatten W) (h3 : css.length = gs.length) (h4 : ∀ i (h : i < css.length) (h' : i < gs.length), SetT bl css[i] gs[i] W) (_ : SetsM B bl w0 ws gs W) : SetsRd v gs W :=
  ⟨css, h2.grd (fun x hx => by
    obtain ⟨i, hi, rfl⟩ := List.mem_iff_getElem.1 hx
    exact (h4 i hi (by omega)).1.ok), h3, fun i hi hi' => (h4 i hi hi').1⟩
end
end Go.Proofs.YtneghhbclefmoaaGreat
end
