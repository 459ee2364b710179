/- Records among the arguments. -/
import Derived.Test.YtgmbefolgppmdaaGreatDoorKRcH
import Derived.SliceStrings
namespace Go.Proofs.YtgmbefolgppmdaaGreatDoor
open Go.RowKit Go.Shelf Go.ChangeShapes Go.WideShapes
set_option maxRecDepth 100000
theorem map_of {α β : Type} {f : α -> β} : ∀ {us : List β}, (∀ u ∈ us, ∃ a, u = f a) -> ∃ l : List α, us = l.map f
 | [], _ => ⟨[], rfl⟩
 | u :: us, h => by
  obtain ⟨a, rfl⟩ := h u List.mem_cons_self
  obtain ⟨l, rfl⟩ := map_of (fun v hv => h v (List.mem_cons_of_mem _ hv))
  exact ⟨a :: l, rfl⟩
theorem list_of {α : Type} {Q : Nat -> α -> Prop} : ∀ (n : Nat), (∀ i, i < n -> ∃ x, Q i x) -> ∃ l : List α, l.length = n /\ ∀ i (h : i < l.length), Q i l[i]
 | 0, _ => ⟨[], rfl, fun i h => by simp at h⟩
 | n + 1, h => by
  obtain ⟨l, hl, hq⟩ := list_of n (fun i hi => h i (by omega))
  obtain ⟨x, hx⟩ := h n (by omega)
  refine ⟨l ++ [x], by simp [hl], fun i hi => ?_⟩
  by_cases hlt : i < l.length
  ·rw [List.getElem_append_left hlt]; exact hq i hlt
  ·have e : i = n := by simp at hi; omega
   subst e
   rw [List.getElem_append_right (by omega)]
   simpa using hx
section
variable {H : Type} {enc : TypeId × Value -> H} {P : Program} {W : World} {base : Nat} {sp : Nat -> Bool} {held : Bool}
theorem trod_rows {t e : TypeId} {K fuel : Nat} {cs : List Value} {x : DataW H × List MemPlace} (ht : P.underlying t = some (.slice e)) (hK : P.cellsOf e = K) (h : DataW.trod enc P W base sp held fuel t cs = some x) :
  cs = [.slice none 0 0] \/ ∃ (a : Addr) (len cap : Nat), cs = [.slice (some a) len cap] /\ len <= cap /\ cap <= maxLen /\
   ∀ i, i < len -> ∃ (n : Nat) (cs' : List Value) (y : DataW H × List MemPlace), cs'.length = K /\ (∀ j, j < K -> W.cell? ((a.add (i * K)).add j) = cs'[j]?) /\ DataW.trod enc P W base sp held n e cs' = some y := by
 rcases DataW.trod_slice ht h with ⟨h0, _⟩ | ⟨a, len, cap, elems, rest, n, _, rfl, _, hb, hl, hm, hlen, hel, _⟩
 ·exact .inl h0
 ·refine .inr ⟨a, len, cap, rfl, hl, hm, fun i hi => ?_⟩
  have := hel i hi
  rw [List.getElem?_eq_getElem (by omega), hK, Option.bind_eq_some_iff] at this
  obtain ⟨cs', h1, h2⟩ := this
  obtain ⟨_, h3, h4⟩ := World.cells?_some h1
  exact ⟨n, cs', _, h3, fun j hj => h4 j hj, h2⟩
theorem trod_sl {t e : TypeId} {fuel : Nat} {cs : List Value} {x : DataW H × List MemPlace} (ht : P.underlying t = some (.slice e)) (hK : P.cellsOf e = 1) (h : DataW.trod enc P W base sp held fuel t cs = some x) :
  ∃ v us, cs = [v] /\ Sl v us W /\ ∀ u ∈ us, ∃ n y, DataW.trod enc P W base sp held n e [u] = some y := by
 rcases trod_rows ht hK h with rfl | ⟨a, len, cap, rfl, hl, hm, hel⟩
 ·exact ⟨_, [], rfl, Sl.nil W, by simp⟩
 ·obtain ⟨us, hu, hq⟩ := list_of (Q := fun i u => W.cell? (a.add i) = some u /\ ∃ n y, DataW.trod enc P W base sp held n e [u] = some y) len (fun i hi => by
   obtain ⟨n, cs', y, h1, h2, h3⟩ := hel i hi
   match cs', h1 with
   | [u], _ =>
    refine ⟨u, ?_, n, y, h3⟩
    have := h2 0 (by omega)
    rwa [Nat.mul_one, add_zero'] at this)
  subst hu
  refine ⟨_, us, rfl, ⟨some a, cap, rfl, hl, hm, (fun h => by cases h), fun j hj => ⟨a, rfl, (hq j hj).1⟩⟩, fun u hu => ?_⟩
  obtain ⟨j, hj, rfl⟩ := List.mem_iff_getElem.1 hu
  exact (hq j hj).2
theorem sl_rd {v : Value} {l : List (List UInt8)} (h : Sl v (l.map S) W) : Rd v l W := by
 obtain ⟨o, cap, h1, h2, h3, h4, h5⟩ := h
 rw [List.length_map] at h1 h2
 refine ⟨o, cap, h1, h2, h3, h4, fun j hj => ?_⟩
 obtain ⟨a, ha, hc⟩ := h5 j (by simpa using hj)
 exact ⟨a, ha, by rw [hc]; simp⟩
theorem rd_of {t e : TypeId} {fuel : Nat} {cs : List Value} {x : DataW H × List MemPlace} (ht : P.underlying t = some (.slice e)) (he : P.underlying e = some .string) (hK : P.cellsOf e = 1) (h : DataW.trod enc P W base sp held fuel t cs = some x) : ∃ v l, cs = [v] /\ Rd v l W := by
 obtain ⟨v, us, rfl, hs, hu⟩ := trod_sl ht hK h
 obtain ⟨l, rfl⟩ := map_of (f := S) (us := us) (fun u hu' => by
  obtain ⟨n, y, hy⟩ := hu u hu'
  obtain ⟨s, h1, _⟩ := DataW.trod_string he hy
  cases h1
  exact ⟨s.data.toList, by simp [S]⟩)
 exact ⟨v, l, rfl, sl_rd hs⟩
theorem ints_of {t e : TypeId} {k : IntKind} {fuel : Nat} {cs : List Value} {x : DataW H × List MemPlace} (ht : P.underlying t = some (.slice e)) (he : P.underlying e = some (.int k)) (hK : P.cellsOf e = 1) (h : DataW.trod enc P W base sp held fuel t cs = some x) :
  ∃ v, ∃ ns : List Int, cs = [v] /\ Sl v (ns.map fun n : Int => Value.int k n) W /\ ∀ n ∈ ns, (Lit.int k n).wf = true := by
 obtain ⟨v, us, rfl, hs, hu⟩ := trod_sl ht hK h
 have hu' : ∀ u ∈ us, ∃ a : Int, u = Value.int k a /\ (Lit.int k a).wf = true := fun u hu' => by
  obtain ⟨n, y, hy⟩ := hu u hu'
  obtain ⟨s, h1, _, h3⟩ := DataW.trod_int he hy
  cases h1
  exact ⟨s, rfl, h3⟩
 obtain ⟨ns, rfl⟩ := map_of (f := fun n : Int => Value.int k n) (us := us) (fun u h => by obtain ⟨a, h1, _⟩ := hu' u h; exact ⟨a, h1⟩)
 refine ⟨v, ns, rfl, hs, fun n hn => ?_⟩
 obtain ⟨a, h1, h2⟩ := hu' _ (List.mem_map_of_mem hn)
 cases h1; exact h2
end
theorem wf_u32 {n : Int} (h : (Lit.int .u32 n).wf = true) : ∃ m : Nat, n = (m : Int) /\ m < 4294967296 := by
 have h' : 0 <= n /\ n < 4294967296 := by
  simp only [Lit.wf, Bool.and_eq_true, decide_eq_true_eq] at h
  have h1 : IntKind.u32.min = 0 := by decide
  have h2 : IntKind.u32.max = 4294967296 - 1 := by decide
  omega
 exact ⟨n.toNat, by omega, by omega⟩
theorem wf_u8 {n : Int} (h : (Lit.int .u8 n).wf = true) : ∃ b : UInt8, n = (b.toNat : Int) := by
 have h' : 0 <= n /\ n < 256 := by
  simp only [Lit.wf, Bool.and_eq_true, decide_eq_true_eq] at h
  have h1 : IntKind.u8.min = 0 := by decide
  have h2 : IntKind.u8.max = 256 - 1 := by decide
  omega
 refine ⟨UInt8.ofNat n.toNat, ?_⟩
 simp [UInt8.toNat_ofNat']; omega
section
variable {H : Type} {enc : TypeId × Value -> H} {W : World} {base : Nat} {sp : Nat -> Bool} {held : Bool}
theorem nums_of {fuel : Nat} {cs : List Value} {x : DataW H × List MemPlace} (h : DataW.trod enc Tryz.prog W base sp held fuel 26 cs = some x) : ∃ v ns, cs = [v] /\ Sl v (numC ns) W /\ ∀ n ∈ ns, n < 4294967296 := by
 obtain ⟨v, ns, rfl, hs, hw⟩ := ints_of Tryz.underlying26 Tryz.underlying24 (by kernel_rfl) h
 obtain ⟨ms, rfl⟩ := map_of (f := fun n : Nat => (n : Int)) (us := ns) (fun u h => by obtain ⟨m, h1, _⟩ := wf_u32 (hw u h); exact ⟨m, h1⟩)
 refine ⟨v, ms, rfl, ?_, fun n hn => ?_⟩
 ·rw [List.map_map] at hs; exact hs
 ·obtain ⟨m, h1, h2⟩ := wf_u32 (hw _ (List.mem_map_of_mem hn)); omega
theorem raw_of {fuel : Nat} {cs : List Value} {x : DataW H × List MemPlace} (h : DataW.trod enc Tryz.prog W base sp held fuel 27 cs = some x) : ∃ v l, cs = [v] /\ BtRd v l W := by
 obtain ⟨v, ns, rfl, hs, hw⟩ := ints_of Tryz.underlying27 Tryz.underlying5 (by kernel_rfl) h
 obtain ⟨ms, rfl⟩ := map_of (f := fun b : UInt8 => (b.toNat : Int)) (us := ns) (fun u h => wf_u8 (hw u h))
 refine ⟨v, ms, rfl, ?_⟩
 rw [List.map_map] at hs; exact hs
theorem nms_of {fuel : Nat} {cs : List Value} {x : DataW H × List MemPlace} (h : DataW.trod enc Tryz.prog W base sp held fuel 25 cs = some x) : ∃ v ns, cs = [v] /\ NmsRd v ns W := by
 obtain ⟨v, us, rfl, hs, hu⟩ := trod_sl Tryz.underlying25 (by kernel_rfl) h
 obtain ⟨ns, hn, hq⟩ := list_of (Q := fun i n => ∀ (h : i < us.length), Rd us[i] n W) us.length (fun i hi => by
  obtain ⟨n, y, hy⟩ := hu us[i] (List.getElem_mem hi)
  obtain ⟨v, l, e, hr⟩ := rd_of Tryz.underlying23 Tryz.underlying9 (by kernel_rfl) hy
  cases e; exact ⟨l, fun _ => hr⟩)
 exact ⟨v, ns, rfl, us, hn.symm, hs, fun i hi hi' => hq i hi' hi⟩
def RN (r : Rc.PRec) : Prop := r.ttl < 4294967296 /\ ∀ n ∈ r.nums, n < 4294967296
theorem dat_of {fuel : Nat} {cs : List Value} {x : DataW H × List MemPlace} (h : DataW.trod enc Tryz.prog W base sp held fuel 29 cs = some x) : ∃ r : Rc.PRec, DatRd cs r W /\ ∀ n ∈ r.nums, n < 4294967296 := by
 obtain ⟨xs, n, rfl, _, hl, hx, hf⟩ := DataW.trod_struct Tryz.underlying29 h
 rw [show Tryz.prog.cellsOf 29 = 5 by kernel_rfl] at hl
 match cs, hl with
 | [c0, c1, c2, c3, c4], _ =>
 have one : Tryz.prog.cellsOf 3 = 1 /\ Tryz.prog.cellsOf 25 = 1 /\ Tryz.prog.cellsOf 26 = 1 /\ Tryz.prog.cellsOf 22 = 1 /\ Tryz.prog.cellsOf 27 = 1 := ⟨by kernel_rfl, by kernel_rfl, by kernel_rfl, by kernel_rfl, by kernel_rfl⟩
 have hx' : xs.length = 5 := hx
 have f0 : DataW.trod enc Tryz.prog W base sp held n 3 (([c0, c1, c2, c3, c4].drop 0).take (Tryz.prog.cellsOf 3)) = xs[0]? := hf 0 _ rfl
 have f1 : DataW.trod enc Tryz.prog W base sp held n 25 (([c0, c1, c2, c3, c4].drop 1).take (Tryz.prog.cellsOf 25)) = xs[1]? := hf 1 _ rfl
 have f2 : DataW.trod enc Tryz.prog W base sp held n 26 (([c0, c1, c2, c3, c4].drop 2).take (Tryz.prog.cellsOf 26)) = xs[2]? := hf 2 _ rfl
 have f3 : DataW.trod enc Tryz.prog W base sp held n 22 (([c0, c1, c2, c3, c4].drop 3).take (Tryz.prog.cellsOf 22)) = xs[3]? := hf 3 _ rfl
 have f4 : DataW.trod enc Tryz.prog W base sp held n 27 (([c0, c1, c2, c3, c4].drop 4).take (Tryz.prog.cellsOf 27)) = xs[4]? := hf 4 _ rfl
 simp only [one.1, one.2.1, one.2.2.1, one.2.2.2.1, one.2.2.2.2, List.drop_zero, List.drop_succ_cons, List.take_succ_cons, List.take_zero] at f0 f1 f2 f3 f4
 rw [List.getElem?_eq_getElem (by omega)] at f0 f1 f2 f3 f4
 obtain ⟨z, e0, _, _⟩ := DataW.trod_int Tryz.underlying3 f0
 obtain ⟨v1, ns, e1, r1⟩ := nms_of f1
 obtain ⟨v2, ms, e2, r2, w2⟩ := nums_of f2
 obtain ⟨v3, ts, e3, r3⟩ := rd_of Tryz.underlying22 Tryz.underlying9 (by kernel_rfl) f3
 obtain ⟨v4, bs, e4, r4⟩ := raw_of f4
 cases e0; cases e1; cases e2; cases e3; cases e4
 exact ⟨⟨[], 0, z, ns, ms, ts, bs⟩, ⟨_, _, _, _, rfl, r1, r2, r3, r4⟩, w2⟩
theorem rec_of {fuel : Nat} {cs : List Value} {x : DataW H × List MemPlace} (h : DataW.trod enc Tryz.prog W base sp held fuel 31 cs = some x) : ∃ r : Rc.PRec, RecRd cs r W /\ RN r := by
 obtain ⟨xs, n, rfl, _, hl, hx, hf⟩ := DataW.trod_struct Tryz.underlying31 h
 rw [show Tryz.prog.cellsOf 31 = 7 by kernel_rfl] at hl
 match cs, hl with
 | [c0, c1, c2, c3, c4, c5, c6], _ =>
 have one : Tryz.prog.cellsOf 23 = 1 /\ Tryz.prog.cellsOf 24 = 1 /\ Tryz.prog.cellsOf 29 = 5 := ⟨by kernel_rfl, by kernel_rfl, by kernel_rfl⟩
 have hx' : xs.length = 3 := hx
 have f0 : DataW.trod enc Tryz.prog W base sp held n 23 (([c0, c1, c2, c3, c4, c5, c6].drop 0).take (Tryz.prog.cellsOf 23)) = xs[0]? := hf 0 _ rfl
 have f1 : DataW.trod enc Tryz.prog W base sp held n 24 (([c0, c1, c2, c3, c4, c5, c6].drop 1).take (Tryz.prog.cellsOf 24)) = xs[1]? := hf 1 _ rfl
 have f2 : DataW.trod enc Tryz.prog W base sp held n 29 (([c0, c1, c2, c3, c4, c5, c6].drop 2).take (Tryz.prog.cellsOf 29)) = xs[2]? := hf 2 _ rfl
 simp only [one.1, one.2.1, one.2.2, List.drop_zero, List.drop_succ_cons, List.take_succ_cons, List.take_zero] at f0 f1 f2
 rw [List.getElem?_eq_getElem (by omega)] at f0 f1 f2
 obtain ⟨v0, o, e0, r0⟩ := rd_of Tryz.underlying23 Tryz.underlying9 (by kernel_rfl) f0
 obtain ⟨z, e1, _, w1⟩ := DataW.trod_int Tryz.underlying24 f1
 obtain ⟨m, rfl, wm⟩ := wf_u32 w1
 obtain ⟨r, hr, wn⟩ := dat_of f2
 cases e0; cases e1
 exact ⟨{ r with owner := o, ttl := m }, ⟨_, _, rfl, r0, hr⟩, wm, wn⟩
end
end Go.Proofs.YtgmbefolgppmdaaGreatDoor
