/- Reports among the arguments. -/
import Derived.Test.YtjhibbjafjhhjaaDoorKTtD0
import Derived.SliceStrings
import Derived.WideShapes
namespace Go.Proofs.YtjhibbjafjhhjaaDoor
open Go.RowKit Go.Shelf Go.ChangeShapes Go.WideShapes
set_option maxRecDepth 100000
theorem map_of {α β : Type} {f : α -> β} : ∀ {us : List β}, (∀ u ∈ us, ∃ a, u = f a) -> ∃ l : List α, us = l.map f
 | [], _ => ⟨[], rfl⟩
 | u :: us, h => by
  obtain ⟨a, rfl⟩ := h u List.mem_cons_self
  obtain ⟨l, rfl⟩ := map_of (fun v hv => h v (List.mem_cons_of_mem _ hv))
  exact ⟨a :: l, rfl⟩
theorem list_of {α : Type} {Q : Nat -> α -> Prop} : ∀ (n : Nat), (∀ i, i < n -> ∃ x, Q i x) -> ∃ l : List α, l.length = n /\ ∀ i (h : i < l.length), Q i l[i]
 | 0, _ => ⟨[], rfl, fun i h => by simp at h⟩
 | n + 1, h => by
  obtain ⟨l, hl, hq⟩ := list_of n (fun i hi => h i (by omega))
  obtain ⟨x, hx⟩ := h n (by omega)
  refine ⟨l ++ [x], by simp [hl], fun i hi => ?_⟩
  by_cases hlt : i < l.length
  ·rw [List.getElem_append_left hlt]; exact hq i hlt
  ·have e : i = n := by simp at hi; omega
   subst e
   rw [List.getElem_append_right (by omega)]
   simpa using hx
section
variable {H : Type} {enc : TypeId × Value -> H} {P : Program} {W : World} {base : Nat} {sp : Nat -> Bool} {held : Bool}
theorem trod_rows {t e : TypeId} {K fuel : Nat} {cs : List Value} {x : DataW H × List MemPlace} (ht : P.underlying t = some (.slice e)) (hK : P.cellsOf e = K) (h : DataW.trod enc P W base sp held fuel t cs = some x) :
  cs = [.slice none 0 0] \/ ∃ (a : Addr) (len cap : Nat), cs = [.slice (some a) len cap] /\ len <= cap /\ cap <= maxLen /\
   ∀ i, i < len -> ∃ (n : Nat) (cs' : List Value) (y : DataW H × List MemPlace), cs'.length = K /\ (∀ j, j < K -> W.cell? ((a.add (i * K)).add j) = cs'[j]?) /\ DataW.trod enc P W base sp held n e cs' = some y := by
 rcases DataW.trod_slice ht h with ⟨h0, _⟩ | ⟨a, len, cap, elems, rest, n, _, rfl, _, hb, hl, hm, hlen, hel, _⟩
 ·exact .inl h0
 ·refine .inr ⟨a, len, cap, rfl, hl, hm, fun i hi => ?_⟩
  have := hel i hi
  rw [List.getElem?_eq_getElem (by omega), hK, Option.bind_eq_some_iff] at this
  obtain ⟨cs', h1, h2⟩ := this
  obtain ⟨_, h3, h4⟩ := World.cells?_some h1
  exact ⟨n, cs', _, h3, fun j hj => h4 j hj, h2⟩
theorem trod_sl {t e : TypeId} {fuel : Nat} {cs : List Value} {x : DataW H × List MemPlace} (ht : P.underlying t = some (.slice e)) (hK : P.cellsOf e = 1) (h : DataW.trod enc P W base sp held fuel t cs = some x) :
  ∃ v us, cs = [v] /\ Sl v us W /\ ∀ u ∈ us, ∃ n y, DataW.trod enc P W base sp held n e [u] = some y := by
 rcases trod_rows ht hK h with rfl | ⟨a, len, cap, rfl, hl, hm, hel⟩
 ·exact ⟨_, [], rfl, Sl.nil W, by simp⟩
 ·obtain ⟨us, hu, hq⟩ := list_of (Q := fun i u => W.cell? (a.add i) = some u /\ ∃ n y, DataW.trod enc P W base sp held n e [u] = some y) len (fun i hi => by
   obtain ⟨n, cs', y, h1, h2, h3⟩ := hel i hi
   match cs', h1 with
   | [u], _ =>
    refine ⟨u, ?_, n, y, h3⟩
    have := h2 0 (by omega)
    rwa [Nat.mul_one, add_zero'] at this)
  subst hu
  refine ⟨_, us, rfl, ⟨some a, cap, rfl, hl, hm, (fun h => by cases h), fun j hj => ⟨a, rfl, (hq j hj).1⟩⟩, fun u hu => ?_⟩
  obtain ⟨j, hj, rfl⟩ := List.mem_iff_getElem.1 hu
  exact (hq j hj).2
theorem sl_rd {v : Value} {l : List (List UInt8)} (h : Sl v (l.map S) W) : Rd v l W := by
 obtain ⟨o, cap, h1, h2, h3, h4, h5⟩ := h
 rw [List.length_map] at h1 h2
 refine ⟨o, cap, h1, h2, h3, h4, fun j hj => ?_⟩
 obtain ⟨a, ha, hc⟩ := h5 j (by simpa using hj)
 exact ⟨a, ha, by rw [hc]; simp⟩
theorem rd_of {t e : TypeId} {fuel : Nat} {cs : List Value} {x : DataW H × List MemPlace} (ht : P.underlying t = some (.slice e)) (he : P.underlying e = some .string) (hK : P.cellsOf e = 1) (h : DataW.trod enc P W base sp held fuel t cs = some x) : ∃ v l, cs = [v] /\ Rd v l W := by
 obtain ⟨v, us, rfl, hs, hu⟩ := trod_sl ht hK h
 obtain ⟨l, rfl⟩ := map_of (f := S) (us := us) (fun u hu' => by
  obtain ⟨n, y, hy⟩ := hu u hu'
  obtain ⟨s, h1, _⟩ := DataW.trod_string he hy
  cases h1
  exact ⟨s.data.toList, by simp [S]⟩)
 exact ⟨v, l, rfl, sl_rd hs⟩
theorem ints_of {t e : TypeId} {k : IntKind} {fuel : Nat} {cs : List Value} {x : DataW H × List MemPlace} (ht : P.underlying t = some (.slice e)) (he : P.underlying e = some (.int k)) (hK : P.cellsOf e = 1) (h : DataW.trod enc P W base sp held fuel t cs = some x) :
  ∃ v, ∃ ns : List Int, cs = [v] /\ Sl v (ns.map fun n : Int => Value.int k n) W /\ ∀ n ∈ ns, (Lit.int k n).wf = true := by
 obtain ⟨v, us, rfl, hs, hu⟩ := trod_sl ht hK h
 have hu' : ∀ u ∈ us, ∃ a : Int, u = Value.int k a /\ (Lit.int k a).wf = true := fun u hu' => by
  obtain ⟨n, y, hy⟩ := hu u hu'
  obtain ⟨s, h1, _, h3⟩ := DataW.trod_int he hy
  cases h1
  exact ⟨s, rfl, h3⟩
 obtain ⟨ns, rfl⟩ := map_of (f := fun n : Int => Value.int k n) (us := us) (fun u h => by obtain ⟨a, h1, _⟩ := hu' u h; exact ⟨a, h1⟩)
 refine ⟨v, ns, rfl, hs, fun n hn => ?_⟩
 obtain ⟨a, h1, h2⟩ := hu' _ (List.mem_map_of_mem hn)
 cases h1; exact h2
end
section
variable {H : Type} {enc : TypeId × Value -> H} {W : World} {base : Nat} {sp : Nat -> Bool} {held : Bool}
def encFt (e : Tt.Er) (cs : List Value) (_W : World) : Prop := cs = [S e.path, .int .i64 e.line, .int .i64 e.err]
theorem lrd_of {α : Type} {en : α -> List Value -> World -> Prop} {t e : TypeId} {K fuel : Nat} {cs : List Value} {x : DataW H × List MemPlace} (ht : Tryd.prog.underlying t = some (.slice e)) (hK : Tryd.prog.cellsOf e = K)
  (hel : ∀ n cs' y, DataW.trod enc Tryd.prog W base sp held n e cs' = some y -> ∃ a, en a cs' W /\ ∀ u ∈ cs', u.oneCell' = true)
  (h : DataW.trod enc Tryd.prog W base sp held fuel t cs = some x) : ∃ v l, cs = [v] /\ LRd K en v l W := by
 rcases trod_rows ht hK h with rfl | ⟨a, len, cap, rfl, hl, hm, hr⟩
 ·exact ⟨_, [], rfl, [], GRd.nil K W, rfl, fun j h => by simp at h⟩
 ·obtain ⟨l, hlen, hq⟩ := list_of (Q := fun i (z : List Value × α) => z.1.length = K /\ en z.2 z.1 W /\ (∀ u ∈ z.1, u.oneCell' = true) /\ ∀ j, j < K -> W.cell? (a.add (i * K + j)) = z.1[j]?) len (fun i hi => by
   obtain ⟨n, cs', y, h1, h2, h3⟩ := hr i hi
   obtain ⟨b, hb, ho⟩ := hel _ _ _ h3
   exact ⟨(cs', b), h1, hb, ho, fun j hj => by rw [<- h2 j hj, add_add']⟩)
  subst hlen
  refine ⟨_, l.map (·.2), rfl, l.map (·.1), ⟨some a, cap, by rw [List.length_map], by rw [List.length_map]; exact hl, hm, (fun h => by cases h), fun z hz => ?_, fun i hi c hc => ⟨a, rfl, ?_⟩⟩, by simp, fun j h h' => ?_⟩
  ·obtain ⟨y, hy, rfl⟩ := List.mem_map.1 hz
   obtain ⟨i, hi, rfl⟩ := List.mem_iff_getElem.1 hy
   exact ⟨(hq i hi).1, (hq i hi).2.2.1⟩
  ·rw [List.length_map] at hi
   rw [(hq i hi).2.2.2 c hc, List.getElem_map]
  ·rw [List.length_map] at h
   rw [List.getElem_map, List.getElem_map]
   exact (hq j h).2.1
theorem fault_of {fuel : Nat} {cs : List Value} {x : DataW H × List MemPlace} (h : DataW.trod enc Tryd.prog W base sp held fuel 32 cs = some x) : ∃ r : Tt.Er, encFt r cs W /\ ∀ u ∈ cs, u.oneCell' = true := by
 obtain ⟨xs, n, rfl, _, hl, hx, hf⟩ := DataW.trod_struct Tryd.underlying32 h
 rw [show Tryd.prog.cellsOf 32 = 3 by kernel_rfl] at hl
 match cs, hl with
 | [c0, c1, c2], _ =>
 have one0 : Tryd.prog.cellsOf 9 = 1 := by kernel_rfl
 have one1 : Tryd.prog.cellsOf 3 = 1 := by kernel_rfl
 have one2 : Tryd.prog.cellsOf 27 = 1 := by kernel_rfl
 have hx' : xs.length = 3 := hx
 have f0 : DataW.trod enc Tryd.prog W base sp held n 9 (([c0, c1, c2].drop 0).take (Tryd.prog.cellsOf 9)) = xs[0]? := hf 0 _ rfl
 have f1 : DataW.trod enc Tryd.prog W base sp held n 3 (([c0, c1, c2].drop 1).take (Tryd.prog.cellsOf 3)) = xs[1]? := hf 1 _ rfl
 have f2 : DataW.trod enc Tryd.prog W base sp held n 27 (([c0, c1, c2].drop 2).take (Tryd.prog.cellsOf 27)) = xs[2]? := hf 2 _ rfl
 simp only [one0, one1, one2, List.drop_zero, List.drop_succ_cons, List.take_succ_cons, List.take_zero] at f0 f1 f2
 rw [List.getElem?_eq_getElem (by omega)] at f0 f1 f2
 obtain ⟨z0, e0, _⟩ := DataW.trod_string Tryd.underlying9 f0
 obtain ⟨z1, e1, _, _⟩ := DataW.trod_int Tryd.underlying3 f1
 obtain ⟨z2, e2, _, _⟩ := DataW.trod_int Tryd.underlying27 f2
 cases e0; cases e1; cases e2
 refine ⟨⟨z0.data.toList, z1, z2⟩, (by simp [encFt, S]), fun u hu => ?_⟩
 simp only [List.mem_cons, List.not_mem_nil, or_false] at hu
 rcases hu with rfl | rfl | rfl <;> rfl
theorem flaw_of {fuel : Nat} {cs : List Value} {x : DataW H × List MemPlace} (h : DataW.trod enc Tryd.prog W base sp held fuel 41 cs = some x) : ∃ r : Tt.Fl, encFl r cs W /\ ∀ u ∈ cs, u.oneCell' = true := by
 obtain ⟨xs, n, rfl, _, hl, hx, hf⟩ := DataW.trod_struct Tryd.underlying41 h
 rw [show Tryd.prog.cellsOf 41 = 3 by kernel_rfl] at hl
 match cs, hl with
 | [c0, c1, c2], _ =>
 have one0 : Tryd.prog.cellsOf 3 = 1 := by kernel_rfl
 have one1 : Tryd.prog.cellsOf 39 = 1 := by kernel_rfl
 have hx' : xs.length = 3 := hx
 have f0 : DataW.trod enc Tryd.prog W base sp held n 3 (([c0, c1, c2].drop 0).take (Tryd.prog.cellsOf 3)) = xs[0]? := hf 0 _ rfl
 have f1 : DataW.trod enc Tryd.prog W base sp held n 39 (([c0, c1, c2].drop 1).take (Tryd.prog.cellsOf 39)) = xs[1]? := hf 1 _ rfl
 have f2 : DataW.trod enc Tryd.prog W base sp held n 3 (([c0, c1, c2].drop 2).take (Tryd.prog.cellsOf 3)) = xs[2]? := hf 2 _ rfl
 simp only [one0, one1, List.drop_zero, List.drop_succ_cons, List.take_succ_cons, List.take_zero] at f0 f1 f2
 rw [List.getElem?_eq_getElem (by omega)] at f0 f1 f2
 obtain ⟨z0, e0, _, _⟩ := DataW.trod_int Tryd.underlying3 f0
 obtain ⟨v1, z1, e1, r1⟩ := rd_of Tryd.underlying39 Tryd.underlying9 (by kernel_rfl) f1
 obtain ⟨o1, p1, rfl, _, _⟩ := r1.form
 obtain ⟨z2, e2, _, _⟩ := DataW.trod_int Tryd.underlying3 f2
 cases e0; cases e1; cases e2
 refine ⟨⟨z0, z1, z2⟩, ⟨_, rfl, r1⟩, fun u hu => ?_⟩
 simp only [List.mem_cons, List.not_mem_nil, or_false] at hu
 rcases hu with rfl | rfl | rfl <;> rfl
theorem edge_of {fuel : Nat} {cs : List Value} {x : DataW H × List MemPlace} (h : DataW.trod enc Tryd.prog W base sp held fuel 55 cs = some x) : ∃ r : Tt.Eg, encEg r cs W /\ ∀ u ∈ cs, u.oneCell' = true := by
 obtain ⟨xs, n, rfl, _, hl, hx, hf⟩ := DataW.trod_struct Tryd.underlying55 h
 rw [show Tryd.prog.cellsOf 55 = 5 by kernel_rfl] at hl
 match cs, hl with
 | [c0, c1, c2, c3, c4], _ =>
 have one0 : Tryd.prog.cellsOf 3 = 1 := by kernel_rfl
 have one1 : Tryd.prog.cellsOf 39 = 1 := by kernel_rfl
 have hx' : xs.length = 5 := hx
 have f0 : DataW.trod enc Tryd.prog W base sp held n 3 (([c0, c1, c2, c3, c4].drop 0).take (Tryd.prog.cellsOf 3)) = xs[0]? := hf 0 _ rfl
 have f1 : DataW.trod enc Tryd.prog W base sp held n 39 (([c0, c1, c2, c3, c4].drop 1).take (Tryd.prog.cellsOf 39)) = xs[1]? := hf 1 _ rfl
 have f2 : DataW.trod enc Tryd.prog W base sp held n 39 (([c0, c1, c2, c3, c4].drop 2).take (Tryd.prog.cellsOf 39)) = xs[2]? := hf 2 _ rfl
 have f3 : DataW.trod enc Tryd.prog W base sp held n 39 (([c0, c1, c2, c3, c4].drop 3).take (Tryd.prog.cellsOf 39)) = xs[3]? := hf 3 _ rfl
 have f4 : DataW.trod enc Tryd.prog W base sp held n 3 (([c0, c1, c2, c3, c4].drop 4).take (Tryd.prog.cellsOf 3)) = xs[4]? := hf 4 _ rfl
 simp only [one0, one1, List.drop_zero, List.drop_succ_cons, List.take_succ_cons, List.take_zero] at f0 f1 f2 f3 f4
 rw [List.getElem?_eq_getElem (by omega)] at f0 f1 f2 f3 f4
 obtain ⟨z0, e0, _, _⟩ := DataW.trod_int Tryd.underlying3 f0
 obtain ⟨v1, z1, e1, r1⟩ := rd_of Tryd.underlying39 Tryd.underlying9 (by kernel_rfl) f1
 obtain ⟨o1, p1, rfl, _, _⟩ := r1.form
 obtain ⟨v2, z2, e2, r2⟩ := rd_of Tryd.underlying39 Tryd.underlying9 (by kernel_rfl) f2
 obtain ⟨o2, p2, rfl, _, _⟩ := r2.form
 obtain ⟨v3, z3, e3, r3⟩ := rd_of Tryd.underlying39 Tryd.underlying9 (by kernel_rfl) f3
 obtain ⟨o3, p3, rfl, _, _⟩ := r3.form
 obtain ⟨z4, e4, _, _⟩ := DataW.trod_int Tryd.underlying3 f4
 cases e0; cases e1; cases e2; cases e3; cases e4
 refine ⟨⟨z0, z1, z2, z3, z4⟩, ⟨_, _, _, rfl, r1, r2, r3⟩, fun u hu => ?_⟩
 simp only [List.mem_cons, List.not_mem_nil, or_false] at hu
 rcases hu with rfl | rfl | rfl | rfl | rfl <;> rfl
theorem seen_of {fuel : Nat} {cs : List Value} {x : DataW H × List MemPlace} (h : DataW.trod enc Tryd.prog W base sp held fuel 44 cs = some x) : ∃ r : Tt.Se, encSe r cs W /\ ∀ u ∈ cs, u.oneCell' = true := by
 obtain ⟨xs, n, rfl, _, hl, hx, hf⟩ := DataW.trod_struct Tryd.underlying44 h
 rw [show Tryd.prog.cellsOf 44 = 4 by kernel_rfl] at hl
 match cs, hl with
 | [c0, c1, c2, c3], _ =>
 have one0 : Tryd.prog.cellsOf 3 = 1 := by kernel_rfl
 have one1 : Tryd.prog.cellsOf 39 = 1 := by kernel_rfl
 have one2 : Tryd.prog.cellsOf 42 = 1 := by kernel_rfl
 have hx' : xs.length = 4 := hx
 have f0 : DataW.trod enc Tryd.prog W base sp held n 3 (([c0, c1, c2, c3].drop 0).take (Tryd.prog.cellsOf 3)) = xs[0]? := hf 0 _ rfl
 have f1 : DataW.trod enc Tryd.prog W base sp held n 39 (([c0, c1, c2, c3].drop 1).take (Tryd.prog.cellsOf 39)) = xs[1]? := hf 1 _ rfl
 have f2 : DataW.trod enc Tryd.prog W base sp held n 3 (([c0, c1, c2, c3].drop 2).take (Tryd.prog.cellsOf 3)) = xs[2]? := hf 2 _ rfl
 have f3 : DataW.trod enc Tryd.prog W base sp held n 42 (([c0, c1, c2, c3].drop 3).take (Tryd.prog.cellsOf 42)) = xs[3]? := hf 3 _ rfl
 simp only [one0, one1, one2, List.drop_zero, List.drop_succ_cons, List.take_succ_cons, List.take_zero] at f0 f1 f2 f3
 rw [List.getElem?_eq_getElem (by omega)] at f0 f1 f2 f3
 obtain ⟨z0, e0, _, _⟩ := DataW.trod_int Tryd.underlying3 f0
 obtain ⟨v1, z1, e1, r1⟩ := rd_of Tryd.underlying39 Tryd.underlying9 (by kernel_rfl) f1
 obtain ⟨o1, p1, rfl, _, _⟩ := r1.form
 obtain ⟨z2, e2, _, _⟩ := DataW.trod_int Tryd.underlying3 f2
 obtain ⟨v3, z3, e3, r3, _⟩ := ints_of Tryd.underlying42 Tryd.underlying3 (by kernel_rfl) f3
 obtain ⟨o3, p3, rfl, _⟩ := id r3
 cases e0; cases e1; cases e2; cases e3
 refine ⟨⟨z0, z1, z2, z3⟩, ⟨_, _, rfl, r1, r3⟩, fun u hu => ?_⟩
 simp only [List.mem_cons, List.not_mem_nil, or_false] at hu
 rcases hu with rfl | rfl | rfl | rfl <;> rfl
end
theorem open_E {H : Type} {enc : TypeId × Value -> H} {W : World} {base : Nat} {sp : Nat -> Bool} {held : Bool} {r : Reach} {b0 : Nat} {v : Value} {d : DataW H} {ps : List MemPlace} (hval : Value.okWide Tryd.prog W r b0 22 v) (hd : DataW.Trod enc Tryd.prog W base sp held 22 v d ps) : ∃ l, LRd 3 encFt v l W := by
 obtain ⟨a0, len, cap, rfl⟩ := okWide_slice Tryd.underlying22 hval
 obtain ⟨fuel, hf⟩ := hd
 obtain ⟨v, l, e, h1⟩ := lrd_of (en := encFt) Tryd.underlying22 (show Tryd.prog.cellsOf 32 = 3 by kernel_rfl) (fun n cs' y h => fault_of h) hf
 simp [Value.cells] at e
 subst e
 exact ⟨l, h1⟩
theorem open_F {H : Type} {enc : TypeId × Value -> H} {W : World} {base : Nat} {sp : Nat -> Bool} {held : Bool} {r : Reach} {b0 : Nat} {v : Value} {d : DataW H} {ps : List MemPlace} (hval : Value.okWide Tryd.prog W r b0 23 v) (hd : DataW.Trod enc Tryd.prog W base sp held 23 v d ps) : ∃ l, LRd 3 encFl v l W := by
 obtain ⟨a0, len, cap, rfl⟩ := okWide_slice Tryd.underlying23 hval
 obtain ⟨fuel, hf⟩ := hd
 obtain ⟨v, l, e, h1⟩ := lrd_of (en := encFl) Tryd.underlying23 (show Tryd.prog.cellsOf 41 = 3 by kernel_rfl) (fun n cs' y h => flaw_of h) hf
 simp [Value.cells] at e
 subst e
 exact ⟨l, h1⟩
theorem open_G {H : Type} {enc : TypeId × Value -> H} {W : World} {base : Nat} {sp : Nat -> Bool} {held : Bool} {r : Reach} {b0 : Nat} {v : Value} {d : DataW H} {ps : List MemPlace} (hval : Value.okWide Tryd.prog W r b0 24 v) (hd : DataW.Trod enc Tryd.prog W base sp held 24 v d ps) : ∃ l, LRd 5 encEg v l W := by
 obtain ⟨a0, len, cap, rfl⟩ := okWide_slice Tryd.underlying24 hval
 obtain ⟨fuel, hf⟩ := hd
 obtain ⟨v, l, e, h1⟩ := lrd_of (en := encEg) Tryd.underlying24 (show Tryd.prog.cellsOf 55 = 5 by kernel_rfl) (fun n cs' y h => edge_of h) hf
 simp [Value.cells] at e
 subst e
 exact ⟨l, h1⟩
theorem open_W {H : Type} {enc : TypeId × Value -> H} {W : World} {base : Nat} {sp : Nat -> Bool} {held : Bool} {r : Reach} {b0 : Nat} {v : Value} {d : DataW H} {ps : List MemPlace} (hval : Value.okWide Tryd.prog W r b0 25 v) (hd : DataW.Trod enc Tryd.prog W base sp held 25 v d ps) : ∃ l, LRd 4 encSe v l W := by
 obtain ⟨a0, len, cap, rfl⟩ := okWide_slice Tryd.underlying25 hval
 obtain ⟨fuel, hf⟩ := hd
 obtain ⟨v, l, e, h1⟩ := lrd_of (en := encSe) Tryd.underlying25 (show Tryd.prog.cellsOf 44 = 4 by kernel_rfl) (fun n cs' y h => seen_of h) hf
 simp [Value.cells] at e
 subst e
 exact ⟨l, h1⟩
end Go.Proofs.YtjhibbjafjhhjaaDoor
