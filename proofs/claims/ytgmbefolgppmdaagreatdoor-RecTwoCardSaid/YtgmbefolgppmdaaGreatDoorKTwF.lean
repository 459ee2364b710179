/- rdata: the words of any data. -/
import Derived.Test.YtgmbefolgppmdaaGreatDoorKTwA
import Derived.Test.YtgmbefolgppmdaaGreatDoorKTxF
import Derived.Test.YtgmbefolgppmdaaGreatDoorKReg
namespace Go.Proofs.YtgmbefolgppmdaaGreatDoor
open Go.RowKit Go.Shelf
set_option maxRecDepth 100000
attribute [local go_sem] Oper.semAt_some
set_option maxHeartbeats 2000000 in
theorem nums1_any (w : World) (R b q : Nat) (hbR : b < R) (hqR : w.heap.size <= q /\ q < R) (hbq : b ≠ q) (ts : List (List UInt8)) (ns : List Nat) (vm : Value) (W : World) (hM : SbM w R q ts W) (hc : W.cell? ⟨b, 2, none⟩ = some vm) (hm : Sl vm (numC ns) w)
  (hn : ∀ n ∈ ns, n < 4294967296) (hl : ns.length <= 1000) (htl : ts.length <= 50000) (ht : Tab w) :
  Calls Tryz.prog 102 #[.pointer (some ⟨b, 0, none⟩), .pointer (some ⟨q, 0, none⟩)] W fun e w' => e = .returned (.tuple #[]) /\ SbM w R q (ts ++ ns.map Lib.decDigits) w' /\ KeptR R q W w' := by
 obtain ⟨o, cap, rfl, hcap, h4⟩ : ∃ o cap, vm = .slice o ns.length cap /\ (ns.length <= cap /\ cap <= 9223372036854775807) /\ ∀ j (h : j < ns.length), ∃ a, o = some a /\ w.cell? (a.add j) = some (.int .u32 ((ns[j] : Nat) : Int)) := by
  obtain ⟨o, cap, h0, h1, h2, h3, h4⟩ := hm
  unfold numC at h0 h1 h4
  rw [List.length_map] at h0 h1
  refine ⟨o, cap, h0, ⟨h1, by unfold maxLen at h2; exact h2⟩, fun j hj => ?_⟩
  obtain ⟨a, ha, hc⟩ := h4 j (by rw [List.length_map]; exact hj)
  exact ⟨a, ha, by rw [hc, List.getElem_map]⟩
 have H4 := Lib.hid h4
 have HN := Lib.hid hn
 have HT := Lib.hid ht
 have HQ := Lib.hid hqR
 have HBQ := Lib.hid (And.intro hbR hbq)
 have HTS := Lib.hid htl
 have HM := Lib.hid hM
 have hlz : (ns.length : Int) <= 1000 := by omega
 have HL := Lib.hid hl
 clear h4 hn ht hqR hbR hbq htl hM hm hl
 refine (callsIn_wide (n := 0)).1 ?_
 refine callsIn_of_wp Tryz.func102 rfl trivial ?_ rfl
 simp only [Tryz.ntmps102, List.size_toArray, List.length_cons, List.length_nil, Nat.reduceAdd, Nat.reduceSub, Array.replicate_succ, Array.replicate_zero, List.push_toArray, List.append_toArray, List.nil_append, List.cons_append]
 gi_wp2_with fail
 gi_loopw [7] (fun vi A => ∃ k : Nat, k <= ns.length /\ vi = .int .i64 k /\ Hid (SbM w R q (ts ++ (ns.take k).map Lib.decDigits) A) /\ Hid (KeptR R q W A)) (fun vi _ => ns.length - (intOf vi).toNat)
 case atStart => exact ⟨0, Nat.zero_le _, rfl, by show SbM _ _ _ _ _; simpa using HM.out, fun _ _ _ => rfl⟩
 case round =>
  obtain ⟨k, hk, rfl, HM1, HKR⟩ := hrel
  by_cases hlt : k < ns.length
  ·have hlk : (k : Int) < (ns.length : Int) := by omega
   obtain ⟨a, rfl, hc0⟩ := H4.out k hlt
   have hcell : wr.cell? (a.add k) = some (.int .u32 ((ns[k] : Nat) : Int)) := (HM1.out.below.cell (cell_lt hc0)).trans hc0
   have hn32 := HN.out ns[k] (List.getElem_mem hlt)
   have hwr : IntKind.u64.wrap ((ns[k] : Nat) : Int) = ((ns[k] : Nat) : Int) := by rw [IntKind.wrap_u64]; omega
   obtain ⟨ts1, hts1⟩ : ∃ t, ts ++ (ns.take k).map Lib.decDigits = t := ⟨_, rfl⟩
   obtain ⟨tl, htl⟩ : ∃ n, ts1.length = n := ⟨_, rfl⟩
   have hX : ts ++ (ns.take (k + 1)).map Lib.decDigits = ts1 ++ [Lib.decDigits ns[k]] := by rw [<- hts1, List.take_succ_eq_append_getElem hlt, List.map_append, List.append_assoc]; rfl
   have htl2 : tl <= 60000 := by have := HTS.out; have := HL.out; rw [<- htl, <- hts1]; simp; omega
   rw [hts1] at HM1
   have HX := Lib.hid hX
   have HTLE := Lib.hid htl
   have HTL := Lib.hid htl2
   obtain ⟨ob, cb, hbx, hrow⟩ := HM1.out.bx
   rw [htl] at hbx hrow
   have HBX := Lib.hid hbx
   have HROW := Lib.hid hrow
   have HN32 := Lib.hid hn32
   obtain ⟨x, hx⟩ : ∃ x, Lib.decDigits ns[k] = x := ⟨_, rfl⟩
   clear hts1 htl hX htl2 hbx hrow hn32 hc0
   gi_wp2_with fail
   refine drawnH [0, 3, 4] (fun w' => w'.cell? ⟨q, 0, none⟩ = some (.slice ob tl cb)) 7 rfl (by kernel_rfl) ?_
   intro w' hw'
   have hbd : Below wr.heap.size wr w' := by subst hw'; exact (Below.refl _ _).drew
   have hS : w'.cell? ⟨q, 0, none⟩ = some (.slice ob tl cb) := (HBX.out.below hbd).cell
   have HBD := Lib.hid hbd
   clear hw' hbd
   refine tP 1 ?qv1 (fun w1 _ => ?qy1) ?_
   case qy1 => go_simp; try rfl
   refine tP 2 ?qv2 (fun w1 _ => ?qy2) ?_
   case qy2 => go_simp; try rfl
   simp only [Act.put, List.setIfInBounds_toArray, List.set_cons_succ, List.set_cons_zero]
   refine tH 0 ?qv0 hS (fun w1 d1 => ?qy0) ?_
   case qy0 => go_simp; try rfl
   simp only [Act.put, List.setIfInBounds_toArray, List.set_cons_succ, List.set_cons_zero]
   clear hS
   have HC : Hid (Calls Tryz.prog 31 #[.int .u64 ((ns[k] : Nat) : Int), .int .i64 10] w' (Gives (S x) w')) := by
    have := fmtU_any ns[k] (by have := HN32.out; omega) w' (HT.out.below (below5 HM1.out.below HBD.out))
    rw [hx] at this; exact this
   have HXX := Lib.hid hx
   clear hx
   refine oneH 3 (by rfl) (by kernel_rfl) (fun K hK => ?_)
   gi_wp2_with fail
   refine (callsIn_wide.2 HC.out).mono ?_
   rintro e w4 ⟨rfl, b4⟩
   have HB4 := Lib.hid (below5 HBD.out b4)
   clear b4 HC
   gi_wp2_with fail
   refine hK _ _ (fun _ => (HBX.out.below HB4.out).cell) ?_
   clear hK K
   refine oneH 4 (by rfl) (by kernel_rfl) (fun K hK => ?_)
   gi_wp2_with fail
   have HB5 : Hid (Below wr.heap.size wr (w4.alloc (.cells #[S x] 9))) := HB4.out.alloc HB4.out.size _
   refine hK _ _ (fun _ => (HBX.out.below HB5.out).cell) ?_
   clear hK K
   refine oneH 5 (by rfl) (by kernel_rfl) (fun K hK => ?_)
   have HR5 : Hid (Row (fun g => R <= g) 9 1 (.slice ob tl cb) tl (ts1.map fun x => [S x]).flatten (w4.alloc (.cells #[S x] 9))) := by show Row _ _ _ _ _ _ _; rw [strs_flat]; exact HROW.out.below HB5.out
   refine append_g (fun g => R <= g) 9 _ 1 16 Tryz.info_str rfl (by decide) rfl _ _ _ Tryz.underlying22 rfl _ tl (ts1.map fun x => [S x]) (by rfl) HR5.out _ [[S x]] (by rfl) (GRd.new [S x] rfl (by simp [Value.oneCell', S]) w4 9) (by have := HTL.out; simp; omega) (by omega) (by have := HM1.out.size; have := HB5.out.size; omega) ?_
   intro v10 w10 hrow10 hgr10
   obtain ⟨o10, c10, e10⟩ := hrow10.form
   subst e10
   have hlt2 : q < (w4.alloc (.cells #[S x] 9)).heap.size := by have := HM1.out.size; have := HB5.out.size; have := HQ.out; omega
   have hown : ∀ g, (Value.slice ob tl cb).ownBlock = some g -> R <= g := fun g hg => HROW.out.2 g hg
   have hbx10 : Box q 22 (.slice ob tl cb) w10 := (hgr10.block _ hlt2 (fun e => by have := hown _ e.symm; have := HQ.out; omega)).trans (HBX.out.below HB5.out)
   have y0 := hbx10.cell
   have y1 := hbx10.frozen
   have HR10 := Lib.hid hrow10
   have HG10 := Lib.hid hgr10
   refine hK _ _ (fun _ => y0) ?_
   clear hK K hrow10 hgr10 hbx10 hlt2 hown
   refine oneH 6 (by rfl) (by kernel_rfl) (fun K hK => ?_)
   gi_wp2_with fail
   refine hK _ _ (fun h => by simp at h) ?_
   clear hK K y0 y1
   refine doneH (by kernel_rfl) ?_
   gi_wp2_with fail
   have hR5' := HR5.out
   rw [strs_flat] at hR5'
   have hR10 := HR10.out
   rw [List.length_cons, List.length_nil, show (ts1.map (fun x => [S x]) ++ [[S x]]) = (ts1 ++ [x]).map (fun x => [S x]) by simp, strs_flat] at hR10
   have HK := HM1.out.push (q := q) (by have := HQ.out; omega) (by have := HQ.out; omega) x HB5.out (HBX.out.below HB5.out) (by rw [HTLE.out]; exact hR5') (by rw [HTLE.out]; exact hR10) HG10.out
   obtain ⟨p1', p2', p3'⟩ := HK
   refine ⟨⟨k + 1, by omega, by go_num, ?_, HKR.out.trans p3'⟩, by simp [intOf]; omega⟩
   rw [HX.out, HXX.out]; exact p1'
  ·obtain rfl : ns.length = k := by omega
   have hlk : ¬ (ns.length : Int) < (ns.length : Int) := by omega
   rw [List.take_length] at HM1
   gi_wp2_with fail
   go_end0
   exact ⟨rfl, HM1.out, HKR.out⟩
end Go.Proofs.YtgmbefolgppmdaaGreatDoor
