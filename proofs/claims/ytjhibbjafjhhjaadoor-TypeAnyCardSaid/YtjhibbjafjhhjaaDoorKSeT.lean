/- Sets of records: a row of numbers sorted, each once; rset.Types. -/
import Derived.Test.YtjhibbjafjhhjaaDoorKGr
import Derived.Test.YtjhibbjafjhhjaaDoorKShelf2
import Derived.Lib.SlicesCompact
import Derived.Lib.RowBridge
namespace Go.Proofs.YtjhibbjafjhhjaaDoor
open Go.RowKit Go.Shelf Go.Sort
set_option maxRecDepth 100000
theorem Row.some_block {R e sz v n xs W} (h : Row R e sz v n xs W) (hn : 0 < n) : ∃ g cap, v = .slice (some ⟨g, 0, none⟩) n cap := by
 obtain ⟨⟨_, ho⟩, _⟩ := h
 rcases ho with ⟨rfl, h0⟩ | ⟨g, cap, cur, rfl, _⟩
 ·omega
 ·exact ⟨g, cap, rfl⟩
theorem Row.put_row {R : Nat -> Prop} {e : TypeId} {n g cap : Nat} {xs : List Value} {W : World} (h : Row R e 1 (.slice (some ⟨g, 0, none⟩) n cap) n xs W) (d : Array Int) (hd : d.size = n) (q : Nat) (os : Array Obj) :
  Row R e 1 (.slice (some ⟨g, 0, none⟩) n cap) n (d.toList.map I64) (Sort.grow (Sort.putRow (Value.int .i64) (Sort.ahead W q) g 0 d) os) /\ W.grownBy (Sort.grow (Sort.putRow (Value.int .i64) (Sort.ahead W q) g 0 d) os) (some g) := by
 obtain ⟨⟨hl, ho⟩, hr⟩ := h
 rcases ho with ⟨h0, _⟩ | ⟨g', cap', cur, h0, hb, hg, h1, h2, h3, h4⟩
 ·cases h0
 ·cases h0
  have hlt := (Array.getElem?_eq_some_iff.1 hg).1
  have hblk : (Sort.grow (Sort.putRow (Value.int .i64) (Sort.ahead W q) g 0 d) os).heap[g]? = some (.cells (Sort.putCells (Value.int .i64) 0 d cur) e (0, 0)) := by
   show (Array.modify _ _ _ ++ os)[g]? = _
   rw [Array.getElem?_append_left (by rw [Array.size_modify]; exact hlt), Array.getElem?_modify, if_pos rfl]
   show Option.map _ (W.heap[g]?) = _
   rw [hg]; rfl
  refine ⟨⟨⟨by simp [hd], .inr ⟨g, cap, _, rfl, hb, hblk, h1, h2, by simp [Sort.putCells, h3], ?_⟩⟩, hr⟩, rfl, rfl, rfl, ?_, fun k hk hne => ?_⟩
  ·refine List.ext_getElem? fun j => ?_
   rw [List.getElem?_take, Nat.mul_one]
   split
   ·rename_i hj
    have hjc : j < cur.size := by rw [Nat.mul_one] at h3; omega
    simp only [Sort.putCells, Array.getElem?_toList, Array.getElem?_mapIdx, Array.getElem?_eq_getElem hjc, Option.map_some, Nat.zero_le, Nat.zero_add, true_and, List.getElem?_map, Nat.sub_zero]
    rw [if_pos (by omega), Array.getElem?_eq_getElem (show j < d.size by omega), getElem!_pos d j (by omega)]
    rfl
   ·rename_i hj
    rw [List.getElem?_eq_none (by simp [hd]; omega)]
  ·show W.heap.size <= (Array.modify _ _ _ ++ os).size
   rw [Array.size_append, Array.size_modify]; exact Nat.le_add_right _ _
  ·show (Array.modify _ _ _ ++ os)[k]? = _
   rw [Array.getElem?_append_left (by rw [Array.size_modify]; exact hk), Array.getElem?_modify, if_neg (fun e => hne (by rw [e]))]
   rfl
theorem Row.holds {R : Nat -> Prop} {e : TypeId} {n g cap : Nat} {zs : List Int} {W : World} (h : Row R e 1 (.slice (some ⟨g, 0, none⟩) n cap) n (zs.map I64) W) (hz : zs.length = n) : Sort.Holds (Value.int .i64) W g 0 zs.toArray /\ g < W.heap.size /\ n <= cap := by
 obtain ⟨⟨hl, ho⟩, hr⟩ := h
 rcases ho with ⟨h0, _⟩ | ⟨g', cap', cur, h0, hb, hg, h1, h2, h3, h4⟩
 ·cases h0
 ·cases h0
  refine ⟨fun j hj => ⟨?_, by simp [World.frozen?, hg]⟩, (Array.getElem?_eq_some_iff.1 hg).1, h1⟩
  have hj' : j < zs.length := by simpa using hj
  rw [Nat.zero_add, cell_of_row W g j _ _ _ hg]
  have := congrArg (fun l => l[j]?) h4
  simp only [List.getElem?_take, Nat.mul_one, show j < n by omega, if_true, List.getElem?_map, List.getElem?_eq_getElem hj', Option.map_some] at this
  rw [getElem!_pos zs.toArray j hj]
  simpa using this
set_option maxHeartbeats 1000000 in
theorem sortInts_any {R : Nat -> Prop} (v : Value) (zs : List Int) (w0 w : World) (hrow : Row R 3 1 v zs.length (zs.map I64) w) (hR : ∀ g, R g -> w0.heap.size <= g) (hb : Below w0.heap.size w0 w) (hn : zs.length <= 1000000) :
  Calls Tryd.prog 42 #[v] w fun e w' => e = .returned (.tuple #[]) /\ Row R 3 1 v zs.length ((zs.mergeSort fun x y => decide (x <= y)).map I64) w' /\ Below w0.heap.size w0 w' /\ w.grownBy w' v.ownBlock := by
 rcases Nat.eq_zero_or_pos zs.length with h0 | hp
 ·obtain rfl := List.length_eq_zero_iff.1 h0
  obtain ⟨a, cap, rfl⟩ := hrow.form
  refine (Tryd.slices_Sort_int_none a cap w).mono ?_
  rintro e w' ⟨rfl, rfl⟩
  refine ⟨rfl, ?_, hb, rfl, rfl, rfl, Nat.le_refl _, fun _ _ _ => rfl⟩
  simpa using hrow
 ·obtain ⟨g, cap, rfl⟩ := hrow.some_block hp
  obtain ⟨hH, hg, hc⟩ := hrow.holds rfl
  refine (Tryd.slices_Sort_int g 0 cap zs w hH hg (by omega)).mono ?_
  rintro e w' ⟨rfl, q, os, rfl⟩
  obtain ⟨h1, h2⟩ := hrow.put_row (zs.mergeSort fun x y => decide (x <= y)).toArray (by simp) q os
  exact ⟨rfl, h1, hb.grown h2 hb.size (fun k hk => by cases hk; exact hR _ (hrow.2 _ rfl)), h2⟩
set_option maxHeartbeats 1000000 in
theorem clipInts_any {R : Nat -> Prop} (v : Value) (zs : List Int) (w : World) (hrow : Row R 3 1 v zs.length (zs.map I64) w) (hn : zs.length <= 1000000) :
  Calls Tryd.prog 43 #[v] w fun e w' => ∃ v', e = .returned v' /\ Sl v' (zs.map I64) w /\ w' = w := by
 have hs : Sl v (zs.map I64) w := Row.sl (by rw [List.length_map]; exact hrow)
 obtain ⟨o, cap, rfl, h1, h2, h3, h4⟩ := hs
 have h2' := h2
 unfold maxLen at h2
 rw [List.length_map] at h1 ⊢
 have n1 : (zs.length : Int) <= 1000000 := by omega
 have HO := Lib.hid (show o = none -> zs.length = 0 from fun h => by have := h3 h; omega)
 have H4 := Lib.hid h4
 have H2 := Lib.hid h2'
 clear h3 h4 hrow h2'
 go_enter Tryd.func43, Tryd.ntmps43
 go_wp2_with fail
 go_ret
 exact ⟨.slice o zs.length zs.length, rfl, ⟨o, zs.length, by rw [List.length_map], by rw [List.length_map]; exact Nat.le_refl _, by have := H2.out; omega, HO.out, H4.out⟩, rfl⟩
end Go.Proofs.YtjhibbjafjhhjaaDoor
