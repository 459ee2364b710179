/- strings.Join of a row of the call's own; types in words. -/
import Derived.Test.YtjhibbjafjhhjaaDoorKTxA
import Derived.Test.YtjhibbjafjhhjaaDoorKGr
namespace Go.Proofs.YtjhibbjafjhhjaaDoor
open Go.RowKit Go.Shelf
set_option maxRecDepth 100000
theorem GRd.blk {k : Nat} {xs : List (List Value)} (hx : ∀ x ∈ xs, x.length = k /\ ∀ u ∈ x, u.oneCell' = true) {b : Nat} {t : TypeId} {W : World} (h : Blk b xs.flatten.toArray t W) (hl : xs.length <= 1000) : GRd k (.slice (some ⟨b, 0, none⟩) xs.length xs.length) xs W := by
 refine ⟨some ⟨b, 0, none⟩, xs.length, rfl, Nat.le_refl _, by unfold maxLen; omega, (fun h => by cases h), hx, fun i hi c hc => ⟨_, rfl, ?_⟩⟩
 have hadd : ∀ j, (⟨b, 0, none⟩ : Addr).add j = ⟨b, j, none⟩ := fun j => by unfold Addr.add; split <;> simp_all
 rw [hadd, h.cell, <- flatten_get (fun x hx' => (hx x hx').1) i c hi hc]
 simp
theorem sjoin_any (b o cap : Nat) (l : List (List UInt8)) (sep : List UInt8) (w : World) (hv : Rd (.slice (some ⟨b, o, none⟩) l.length cap) l w) (hb : b < w.heap.size) (hn : l.length <= 1000) (hl : (Lib.join l sep).length <= 140737488355328) :
  Calls Tryd.prog 22 #[.slice (some ⟨b, o, none⟩) l.length cap, S sep] w (Gives (S (Lib.join l sep)) w) := by
 obtain ⟨o', cap', e, h1, h2, h3, h4⟩ := hv
 cases e
 have hm : (l.map fun x => (⟨x.toArray⟩ : ByteArray)).map (·.data.toList) = l := by simp [Function.comp_def]
 have := Tryd.strings_Join b o cap (l.map fun x => ⟨x.toArray⟩) ⟨sep.toArray⟩ w (fun j x hx => by
  rw [List.getElem?_map, Option.map_eq_some_iff] at hx
  obtain ⟨y, hy, rfl⟩ := hx
  obtain ⟨hj, rfl⟩ := List.getElem?_eq_some_iff.1 hy
  obtain ⟨a, ha, hc⟩ := h4 j hj
  cases ha
  rw [Lib.add_plain] at hc; exact hc) hb (by rw [List.length_map]; omega) (by rw [List.length_map]; exact h1) (by rw [hm]; exact hl)
 rw [hm, List.length_map] at this
 exact this
namespace Ty
def names : List (Int × List UInt8) := [(1, [65]), (2, [78, 83]), (5, [67, 78, 65, 77, 69]), (6, [83, 79, 65]), (12, [80, 84, 82]), (15, [77, 88]), (16, [84, 88, 84]), (28, [65, 65, 65, 65]), (39, [68, 78, 65, 77, 69])]
def nameOf (t : Int) : Option (List UInt8) := (names.find? fun p => p.1 == t).map (·.2)
def text (t : Nat) : List UInt8 := match nameOf t with
 | some s => s
 | none => [84, 89, 80, 69] ++ Lib.decDigits t
end Ty
def encPr (p : Int × List UInt8) : List Value := [.int .i64 p.1, S p.2]
theorem names_any (w : World) : Calls Tryd.prog 40 #[] w fun e w' => e = .returned (.slice (some ⟨w.heap.size, 0, none⟩) 9 9) /\ GRd 2 (.slice (some ⟨w.heap.size, 0, none⟩) 9 9) (Ty.names.map encPr) w' /\ Below w.heap.size w w' := by
 go_enter Tryd.func40, Tryd.ntmps40
 go_wp2
 go_ret
 refine ⟨rfl, ?_, (Below.refl _ _).alloc (Nat.le_refl _) _⟩
 exact GRd.blk (xs := Ty.names.map encPr) (fun x hx => by
  obtain ⟨y, _, rfl⟩ := List.mem_map.1 hx
  exact ⟨rfl, fun u hu => by simp only [encPr, List.mem_cons, List.not_mem_nil, or_false] at hu; rcases hu with rfl | rfl <;> rfl⟩) (Blk.new w _ _) (by decide)
theorem find_next {α : Type} {p : α -> Bool} {l : List α} {k : Nat} (hk : k < l.length) (h : p l[k] = false) : (l.drop k).find? p = (l.drop (k + 1)).find? p := by
 rw [List.drop_eq_getElem_cons hk, List.find?_cons, h]
set_option maxHeartbeats 1000000 in
theorem findIS_any (v : Value) (l : List (Int × List UInt8)) (key : Int) (w : World) (hv : GRd 2 v (l.map encPr) w) (hn : l.length <= 1000) :
  Calls Tryd.prog 39 #[v, .int .i64 key] w (Gives (.tuple #[S (((l.find? fun p => p.1 == key).map (·.2)).getD []), .bool (l.find? fun p => p.1 == key).isSome]) w) := by
 obtain ⟨o, cap, rfl, h1, h2⟩ := hv.form
 rw [List.length_map] at h1 ⊢
 rw [List.length_map] at hv
 have HV := Lib.hid hv
 have lz : (l.length : Int) <= 1000 := by omega
 clear hv
 go_enter Tryd.func39, Tryd.ntmps39
 go_wp2
 go_loopw [11] (fun vi W => ∃ k : Nat, k <= l.length /\ vi = .int .i64 k /\ Hid ((l.find? fun p => p.1 == key) = (l.drop k).find? fun p => p.1 == key) /\ Below w.heap.size w W) (fun vi _ => l.length - (intOf vi).toNat)
 case atStart => exact ⟨0, Nat.zero_le _, rfl, rfl, Below.refl _ _⟩
 case round =>
  obtain ⟨k, hk, rfl, hf, hb⟩ := hrel
  by_cases hlt : k < l.length
  ·have hlz : (k : Int) < (l.length : Int) := by omega
   obtain ⟨t, s, hx⟩ : ∃ t s, l[k] = (t, s) := ⟨_, _, rfl⟩
   obtain ⟨a, rfl, e0, e1⟩ := (HV.out.below hb).at (by decide) k (by rw [List.length_map]; exact hlt)
   have e1 := e1 1 (by decide) (by decide)
   rw [List.getElem_map, hx] at e0 e1
   simp only [encPr, List.getElem?_cons_zero, List.getElem?_cons_succ] at e0 e1
   obtain ⟨z, hz⟩ : ∃ z, a.add (k * 2) = z := ⟨_, rfl⟩
   rw [hz] at e0 e1
   have HX := Lib.hid hx
   have HB := Lib.hid hb
   by_cases hq : t = key
   ·have hq' : (t == key) = true := by simpa using hq
    go_wp2
    go_ret2
    refine ⟨?_, ?_⟩
    ·rw [hf.out, List.drop_eq_getElem_cons hlt, HX.out, List.find?_cons, hq']; rfl
    ·exact HB.out.alloc (by have := HB.out.size; omega) _
   ·have hq' : (t == key) = false := by simpa using hq
    go_wp2
    refine ⟨⟨k + 1, hlt, by go_num, ?_, ?_⟩, by simp [intOf]; omega⟩
    ·show _ = _
     rw [hf.out]; exact find_next hlt (by rw [HX.out]; exact hq')
    ·exact HB.out.alloc (by have := HB.out.size; omega) _
  ·have hlz : ¬ (k : Int) < (l.length : Int) := by omega
   have HB := Lib.hid hb
   have hN : (l.find? fun p => p.1 == key) = none := by rw [hf.out, List.drop_eq_nil_of_le (by omega)]; rfl
   have HN := Lib.hid hN
   clear hN hf
   go_wp2
   go_ret2
   rw [HN.out]
   exact ⟨rfl, HB.out⟩
end Go.Proofs.YtjhibbjafjhhjaaDoor
