/- The walk of SetsAll. -/
import Derived.Test.YtneghhbclefmoaaLSfA
import Derived.Test.YtneghhbclefmoaaLZnI
namespace Go.Proofs.Ytneghhbclefmoaa
open Go.RowKit Go.Shelf Go.Sort
set_option maxRecDepth 100000

/-- the set at place i, cell by cell -/
def SetAt {w : World} (_gs : List (List (El w))) (ga : Addr) (w1 : World) (i : Nat) (g : List (El w)) : Prop :=
  ∃ x xs po no qo od cd, g = x :: xs ∧ Rd (.slice po no qo) x.1.2.owner w ∧ DatsRd (.slice od g.length cd) g w1 ∧
    ∀ W', Below w1.heap.size w1 W' → W'.cell? (ga.add (i * 4)) = some (.slice po no qo) ∧ W'.cell? ⟨(ga.add (i * 4)).block, (ga.add (i * 4)).off + 1, none⟩ = some (.int .i64 x.1.2.type) ∧
      W'.cell? ⟨(ga.add (i * 4)).block, (ga.add (i * 4)).off + 2, none⟩ = some (.int .u32 ((Rs.ttl x.1.2 (plE g) : Nat) : Int)) ∧ W'.cell? ⟨(ga.add (i * 4)).block, (ga.add (i * 4)).off + 3, none⟩ = some (.slice od g.length cd)
theorem SetsRd.at {w : World} {o : Option Addr} {n cap : Nat} {gs : List (List (El w))} {w1 : World} (h : SetsRd (.slice o n cap) gs w1) (i : Nat) (hi : i < gs.length) : ∃ ga, o = some ga ∧ SetAt gs ga w1 i gs[i] := by
  obtain ⟨css, hg, hl, hs⟩ := h
  have hi' : i < css.length := by omega
  obtain ⟨ga, rfl, _⟩ := hg.at (by decide) i hi'
  obtain ⟨x, xs, po, no, qo, od, cd, e1, e2, e3, e4⟩ := hs i hi' hi
  refine ⟨ga, rfl, x, xs, po, no, qo, od, cd, e1, e3, e4, fun W' hW => ?_⟩
  obtain ⟨a, ha, q0, q1⟩ := (hg.below hW).at (by decide) i hi'
  cases ha
  simp only [e2] at q0 q1
  exact ⟨q0, q1 1 (by decide) (by decide), q1 2 (by decide) (by decide), q1 3 (by decide) (by decide)⟩
theorem SetsRd.form {w : World} {v : Value} {gs : List (List (El w))} {w1 : World} (h : SetsRd v gs w1) : ∃ o cap, v = .slice o gs.length cap ∧ gs.length ≤ cap ∧ cap ≤ 9223372036854775807 := by
  obtain ⟨css, hg, hl, _⟩ := h
  obtain ⟨o, cap, h1, h2, h3⟩ := hg.form
  exact ⟨o, cap, by rw [h1, hl], by omega, h3⟩
theorem flat_take_len {α : Type} (gs : List (List α)) (i : Nat) (hi : i < gs.length) : (gs.take (i + 1)).flatten.length = (gs.take i).flatten.length + gs[i].length := by
  rw [List.take_succ_eq_append_getElem hi, List.flatten_append, List.length_append]; simp
theorem flat_take_le {α : Type} (gs : List (List α)) (i : Nat) : (gs.take i).flatten.length ≤ gs.flatten.length := by
  conv => rhs; rw [← List.take_append_drop i gs, List.flatten_append, List.length_append]
  omega
theorem any_take {l : List Int} {t : Int} (k : Nat) (hk : k < l.length) : (l.take (k + 1)).any (· == t) = ((l.take k).any (· == t) || (l[k] == t)) := by
  rw [List.take_succ_eq_append_getElem hk, List.any_append]; simp
theorem Rs.types_len (L : List Rc.PRec) (o : List (List UInt8)) : (Rs.types L o).length ≤ L.length := by
  unfold Rs.types
  refine Nat.le_trans (compact_len _) ?_
  rw [List.length_mergeSort, List.length_map]
  exact List.length_filter_le _ _
def TrS (w : World) (e : Ending) (w' : World) : Prop := e = .returned (.bool true) ∧ Below w.heap.size w w'
theorem DatsRd.off {w : World} {o : Option Addr} {n cap : Nat} {l : List (El w)} {W : World} (h : DatsRd (.slice o n cap) l W) (hn : 0 < n) {b : Nat} {c0 c1 c2 c3 : Value} {t : TypeId} (hb : Blk b #[c0, c1, c2, c3] t W) : ∀ a, o = some a → a.block ≠ b := by
  rintro a rfl e
  obtain ⟨o', cap', e0, _, _, _, h5⟩ := h
  cases e0
  obtain ⟨a', ha, hc⟩ := h5 4 (by rw [flat_len encD 5 encD_len]; omega)
  cases ha
  have : (a.add 4) = ⟨b, a.off + 4, none⟩ := by subst e; rfl
  rw [this, hb.cell] at hc
  simp at hc
end Go.Proofs.Ytneghhbclefmoaa
