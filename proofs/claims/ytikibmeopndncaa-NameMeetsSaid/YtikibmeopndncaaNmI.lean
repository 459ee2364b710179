/- Names in small letters. -/
import Derived.Test.YtikibmeopndncaaNmH
import Derived.Laws.MakeOwn
namespace Go.Proofs.Ytikibmeopndncaa
open Go.RowKit Go.Shelf
set_option maxRecDepth 100000

theorem make_strs (t : TypeId) (ht : Try.prog.underlying t = some (.slice 9)) (m : Nat) (hm : m ≤ 100000) (w : World) :
    ∃ cs : Array Value, (Instr.makeSlice t (.int .i64 m) (.int .i64 m)).run Try.prog w = .ok (.slice (some ⟨w.heap.size, 0, none⟩) m m) (w.alloc (.cells cs 9)) ∧ cs.toList = (List.replicate m ([] : List UInt8)).map S := by
  obtain ⟨i0, hi, hz0, hz1, hz2⟩ := info_parts Try.info_str
  refine ⟨madeCells #[.string ⟨#[]⟩] m, ?_, ?_⟩
  · have := run_make (P := Try.prog) w t 9 i0 (.string ⟨#[]⟩) ht hi hz0 .i64 .i64 m m (by omega) (by omega) (by rw [hz2]; omega) (by omega)
    simpa [hz1, Value.cells] using this
  · simp only [madeCells, List.map_replicate]
    rw [Array.toList_map, Array.toList_range]
    apply List.ext_getElem (by simp)
    intro j h1 h2
    simp [S, Nat.mod_one]
theorem row_made (m : Nat) (hm : m ≤ 100000) (cs : Array Value) (w : World) (hc : cs.toList = (List.replicate m ([] : List UInt8)).map S) :
    Row (Own w) 9 1 (.slice (some ⟨w.heap.size, 0, none⟩) m m) m ((List.replicate m ([] : List UInt8)).map S) (w.alloc (.cells cs 9)) := by
  refine ⟨?_, fun g hg => by cases hg; exact Nat.le_refl _⟩
  have := World.ownsRow_lit (e := 9) (size := 1) (base := 0) w cs m (Nat.zero_le _) (by unfold maxLen; omega) (by rw [← Array.length_toList, hc]; simp)
  rwa [hc] at this
def Nm.foldTo (n : List (List UInt8)) (k : Nat) : List (List UInt8) := (n.take k).map Lb.fold ++ List.replicate (n.length - k) []
theorem Nm.foldTo_zero (n : List (List UInt8)) : Nm.foldTo n 0 = List.replicate n.length [] := by simp [Nm.foldTo]
theorem Nm.foldTo_end (n : List (List UInt8)) : Nm.foldTo n n.length = Nm.fold n := by simp [Nm.foldTo, Nm.fold]
theorem Nm.foldTo_length (n : List (List UInt8)) (k : Nat) (h : k ≤ n.length) : (Nm.foldTo n k).length = n.length := by simp [Nm.foldTo]; omega
theorem Nm.foldTo_succ (n : List (List UInt8)) (k : Nat) (h : k < n.length) : ((Nm.foldTo n k).map S).set k (S (Lb.fold n[k])) = (Nm.foldTo n (k + 1)).map S := by
  rw [← List.map_set]
  congr 1
  unfold Nm.foldTo
  rw [List.set_append_right _ _ (by simp; omega), List.take_succ_eq_append_getElem h, List.map_append, List.append_assoc]
  congr 1
  rw [show k - ((n.take k).map Lb.fold).length = 0 by simp; omega, show n.length - k = (n.length - (k + 1)) + 1 by omega, List.replicate_succ, List.set_cons_zero]
  rfl
theorem Nm.fold_len (n : List (List UInt8)) : (Nm.fold n).length = n.length := by simp [Nm.fold]

set_option maxHeartbeats 1000000 in
theorem nFold_any (v : Value) (n : List (List UInt8)) (w : World) (hv : Rd v n w) (hn : NB n) :
    Calls Try.prog 27 #[v] w (RdOf (Nm.fold n) w) := by
  obtain ⟨o, cap, rfl, h1, h2⟩ := hv.form
  have HC := Lib.hid hv.cells
  have hn1 := hn.1
  have n1 : (n.length : Int) ≤ 1000 := by omega
  have GA := Lib.hid (show ∀ k (h : k < n.length), n[k].length ≤ 1000000 from fun k h => by have := hn.get h; omega)
  clear hv hn
  obtain ⟨cs, hrun, hcs⟩ := make_strs 44 Try.underlying44 n.length (by omega) w
  have hrow := row_made n.length (by omega) cs w hcs
  rw [← Nm.foldTo_zero] at hrow
  have HROW := Lib.hid hrow
  have HRUN := Lib.hid hrun
  clear hrun hcs hrow
  go_enter Try.func27, Try.ntmps27
  go_wp2_with fail
  rw [HRUN.out]
  simp only [Result.andThen]
  rw [Oper.upon_value]
  go_wp2_with fail
  go_loopw [11] (fun i wr => ∃ k : Nat, k ≤ n.length ∧ i = .int .i64 k ∧ Row (Own w) 9 1 (.slice (some ⟨w.heap.size, 0, none⟩) n.length n.length) n.length ((Nm.foldTo n k).map S) wr ∧ Below w.heap.size w wr) (fun i _ => n.length - (intOf i).toNat)
  case atStart => exact ⟨0, by omega, rfl, HROW.out, (Below.refl _ _).alloc (Nat.le_refl _) _⟩
  case round =>
    obtain ⟨k, hk, rfl, hrow, hb⟩ := hrel
    by_cases hlt : k < n.length
    · obtain ⟨x, rfl, e1⟩ := HC.out _ hb k hlt
      have g2 := GA.out k hlt
      have HS := Lib.hid (Nm.foldTo_succ n k hlt)
      go_wp2_with fail
      refine (fold_any n[k] _ g2).mono ?_
      rintro e w1 ⟨rfl, b1⟩
      have hrow1 := hrow.below b1
      obtain ⟨g, cap', hv, _, _, _, hcell, hfr, hset⟩ := hrow1.at (by omega)
      cases hv
      have c1 := hcell k (by simp [Nm.foldTo_length n k hk]; omega)
      have f1 := hfr k
      have HSET := Lib.hid (hset k (S (Lb.fold n[k])) rfl)
      clear hcell hfr hset
      have hb1 := below5 hb b1
      go_wp2_with fail
      exact ⟨⟨k + 1, by omega, by go_num, by rw [← HS.out]; exact HSET.out, hb1.setCell (p := ⟨w.heap.size, k, none⟩) (Nat.le_refl _) _⟩, by simp [intOf]; omega⟩
    · obtain rfl : k = n.length := by omega
      rw [Nm.foldTo_end] at hrow
      go_wp2_with fail
      go_ret
      exact ⟨_, rfl, Rd.of_row (by rw [Nm.fold_len]; exact hrow), hb⟩

theorem Nm.foldm_succ (n : List (List UInt8)) (k : Nat) (h : k < n.length) : (n.take (k + 1)).map Lb.fold = (n.take k).map Lb.fold ++ [Lb.fold n[k]] := by
  rw [List.take_succ_eq_append_getElem h, List.map_append]; rfl
theorem rd_one (x : List UInt8) (w : World) : Rd (.slice (some ⟨w.heap.size, 0, none⟩) 1 1) [x] (w.alloc (.cells #[S x] 9)) := Rd.of_row (row_one x w)

set_option maxHeartbeats 1000000 in
theorem refFoldN_any (v : Value) (n : List (List UInt8)) (w : World) (hv : Rd v n w) (hn : NB n) :
    Calls Try.prog 28 #[v] w (RdOf (Nm.fold n) w) := by
  obtain ⟨o, cap, rfl, h1, h2⟩ := hv.form
  have HC := Lib.hid hv.cells
  have hn1 := hn.1
  have n1 : (n.length : Int) ≤ 1000 := by omega
  have GA := Lib.hid (show ∀ k (h : k < n.length), n[k].length ≤ 1000000 from fun k h => by have := hn.get h; omega)
  clear hv hn
  refine (callsIn_wide (n := 0)).1 ?_
  refine callsIn_of_wp Try.func28 rfl trivial ?_ rfl
  simp only [Try.ntmps28, List.size_toArray, List.length_cons, List.length_nil, Nat.reduceAdd, Nat.reduceSub, Array.replicate_succ, Array.replicate_zero, List.push_toArray, List.append_toArray, List.nil_append, List.cons_append]
  gi_wp2
  gi_loopw [3, 4] (fun v i wr => ∃ k : Nat, k ≤ n.length ∧ i = .int .i64 k ∧ Row (Own w) 9 1 v k (((n.take k).map Lb.fold).map S) wr ∧ Below w.heap.size w wr) (fun _ i _ => n.length - (intOf i).toNat)
  case atStart => exact ⟨0, by omega, rfl, Row.nil _ _ _ _, Below.refl _ _⟩
  case round =>
    obtain ⟨k, hk, rfl, hrow, hb⟩ := hrel
    by_cases hlt : k < n.length
    · obtain ⟨x, rfl, e1⟩ := HC.out _ hb k hlt
      have g2 := GA.out k hlt
      have HS := Lib.hid (Nm.foldm_succ n k hlt)
      gi_wp2_with (first
        | (gi_at_call 60; refine (callsIn_wide.2 (refFold_any n[k] _ g2)).mono ?_; rintro e w1 ⟨rfl, b1⟩; have hb1 := below5 hb b1)
        | (gi_at_builtin; refine append_rd (Own w) rfl _ _ _ Try.underlying40 rfl _ k _ (by rfl) ((hrow.below b1).alloc _) _ [Lb.fold n[k]] (by rfl) (rd_one _ _) (by simp; omega) (by have := hb1.size; simp; omega) ?_; intro v' w' hrow' hgr))
      refine ⟨⟨k + 1, by omega, by go_num, by rw [HS.out]; exact hrow', (hb1.alloc hb1.size _).grown hgr (by have := hb1.size; simp; omega) (fun g hg => hrow.2 g hg)⟩, by simp [intOf]; omega⟩
    · obtain rfl : k = n.length := by omega
      rw [List.take_length] at hrow
      gi_wp2_with fail
      go_ret
      exact ⟨_, rfl, Rd.of_row (by rw [Nm.fold_len]; exact hrow), hb⟩
end Go.Proofs.Ytikibmeopndncaa
