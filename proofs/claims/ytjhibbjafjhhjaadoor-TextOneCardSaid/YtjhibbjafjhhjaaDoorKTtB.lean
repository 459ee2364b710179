/- An error's line; the same by the reference. -/
import Derived.Test.YtjhibbjafjhhjaaDoorKTtA
import Derived.Test.YtjhibbjafjhhjaaDoorKTyF
import Derived.Test.YtjhibbjafjhhjaaDoorKTyO
import Derived.Test.YtjhibbjafjhhjaaDoorKReg
namespace Go.Proofs.YtjhibbjafjhhjaaDoor
open Go.RowKit Go.Shelf
set_option maxRecDepth 100000
def Cs : List (Addr × Value) -> World -> Prop
 | [], _ => True
 | p :: l, W => W.cell? p.1 = some p.2 /\ Cs l W
theorem Cs.below : ∀ {l : List (Addr × Value)} {W W' : World}, Cs l W -> Below W.heap.size W W' -> Cs l W'
 | [], _, _, _, _ => trivial
 | _ :: _, _, _, h, hb => ⟨(hb.cell (cell_lt h.1)).trans h.1, Cs.below h.2 hb⟩
theorem Cs.drew : ∀ {l : List (Addr × Value)} {W : World}, Cs l W -> Cs l W.drew
 | [], _, _ => trivial
 | _ :: _, _, h => ⟨h.1, Cs.drew h.2⟩
def Tt.errText (p : List UInt8) (n : Nat) (E : List UInt8) : List UInt8 := p ++ [58] ++ Lib.decDigits n ++ [58, 32] ++ E
set_option maxHeartbeats 4000000 in
theorem faultErr_any (b : Nat) (p : List UInt8) (n k : Nat) (hk : k < 13) (w : World) (hB : Blk b #[S p, .int .i64 (n : Int), .int .i64 (k : Int)] 32 w) (hp : p.length <= 50) (hn : n < 9223372036854775808) (ht : Tab w) :
  Calls Tryd.prog 47 #[.pointer (some ⟨b, 0, none⟩)] w (Gives (S (Tt.errText p n (Tt.errs[k]'hk))) w) := by
 have HT := Lib.hid ht
 have HD := Lib.hid (fun w hw => itoa_any n hn w hw)
 have HW := Lib.hid (fun w => errWord_any k hk w)
 obtain ⟨D, hD⟩ : ∃ D, Lib.decDigits n = D := ⟨_, rfl⟩
 have hdl : D.length <= 20 := by rw [<- hD]; exact dec_len n (by omega)
 obtain ⟨E, hE⟩ : ∃ E, Tt.errs[k]'hk = E := ⟨_, rfl⟩
 have hel : E.length <= 10 := by rw [<- hE]; exact Tt.errs_len _ (List.getElem_mem _)
 rw [hD] at HD
 rw [hE] at HW ⊢
 have HR : Hid (Tt.errText p n E = p ++ [58] ++ D ++ [58, 32] ++ E) := by show _ = _; unfold Tt.errText; rw [hD]
 have HCS : Hid (∀ W', Below w.heap.size w W' -> Cs [(⟨b, 0, none⟩, S p), (⟨b, 1, none⟩, .int .i64 (n : Int)), (⟨b, 2, none⟩, .int .i64 (k : Int))] W') := fun W' hW => ⟨(hB.below hW).cell 0, (hB.below hW).cell 1, (hB.below hW).cell 2, trivial⟩
 clear ht hD hE hB
 rw [HR.out]
 refine (callsIn_wide (n := 0)).1 ?_
 refine callsIn_of_wp Tryd.func47 rfl trivial ?_ rfl
 simp only [Tryd.ntmps47, List.size_toArray, List.length_cons, List.length_nil, Nat.reduceAdd, Nat.reduceSub, Array.replicate_succ, Array.replicate_zero, List.push_toArray, List.append_toArray, List.nil_append, List.cons_append]
 gi_wp2_with fail
 refine drawnH (List.range 19) (Cs [(⟨b, 0, none⟩, S p), (⟨b, 1, none⟩, .int .i64 (n : Int)), (⟨b, 2, none⟩, .int .i64 (k : Int))]) 19 rfl (by kernel_rfl) ?_
 intro w' hw'
 have hb : Below w.heap.size w w' := by subst hw'; exact (Below.refl _ _).drew
 have hS := HCS.out w' hb
 have HB := Lib.hid hb
 clear hw' hb
 refine tH 0 ?qav0 hS (fun w1 ⟨x0, x1, x2, _⟩ => ?qay0) ?_
 case qay0 => (go_simp; try first | rfl | (rw [if_pos (by omega)]) | (rw [if_neg (by omega)]) | (rw [if_neg (by simp; omega)]) | (split <;> first | (exfalso; omega) | rfl))
 refine tH 1 ?qav1 hS (fun w1 ⟨x0, x1, x2, _⟩ => ?qay1) ?_
 case qay1 => (go_simp; try first | rfl | (rw [if_pos (by omega)]) | (rw [if_neg (by omega)]) | (rw [if_neg (by simp; omega)]) | (split <;> first | (exfalso; omega) | rfl))
 refine tH 2 ?qav2 hS (fun w1 ⟨x0, x1, x2, _⟩ => ?qay2) ?_
 case qay2 => (go_simp; try first | rfl | (rw [if_pos (by omega)]) | (rw [if_neg (by omega)]) | (rw [if_neg (by simp; omega)]) | (split <;> first | (exfalso; omega) | rfl))
 refine tH 3 ?qav3 hS (fun w1 ⟨x0, x1, x2, _⟩ => ?qay3) ?_
 case qay3 => (go_simp; try first | rfl | (rw [if_pos (by omega)]) | (rw [if_neg (by omega)]) | (rw [if_neg (by simp; omega)]) | (split <;> first | (exfalso; omega) | rfl))
 refine tH 4 ?qav4 hS (fun w1 ⟨x0, x1, x2, _⟩ => ?qay4) ?_
 case qay4 => (go_simp; try first | rfl | (rw [if_pos (by omega)]) | (rw [if_neg (by omega)]) | (rw [if_neg (by simp; omega)]) | (split <;> first | (exfalso; omega) | rfl))
 refine tH 5 ?qav5 hS (fun w1 ⟨x0, x1, x2, _⟩ => ?qay5) ?_
 case qay5 => (go_simp; try first | rfl | (rw [if_pos (by omega)]) | (rw [if_neg (by omega)]) | (rw [if_neg (by simp; omega)]) | (split <;> first | (exfalso; omega) | rfl))
 refine tH 6 ?qav6 hS (fun w1 ⟨x0, x1, x2, _⟩ => ?qay6) ?_
 case qay6 => (go_simp; try first | rfl | (rw [if_pos (by omega)]) | (rw [if_neg (by omega)]) | (rw [if_neg (by simp; omega)]) | (split <;> first | (exfalso; omega) | rfl))
 refine tH 7 ?qav7 hS (fun w1 ⟨x0, x1, x2, _⟩ => ?qay7) ?_
 case qay7 => (go_simp; try first | rfl | (rw [if_pos (by omega)]) | (rw [if_neg (by omega)]) | (rw [if_neg (by simp; omega)]) | (split <;> first | (exfalso; omega) | rfl))
 refine tH 8 ?qav8 hS (fun w1 ⟨x0, x1, x2, _⟩ => ?qay8) ?_
 case qay8 => (go_simp; try first | rfl | (rw [if_pos (by omega)]) | (rw [if_neg (by omega)]) | (rw [if_neg (by simp; omega)]) | (split <;> first | (exfalso; omega) | rfl))
 refine tH 12 ?qav12 hS (fun w1 ⟨x0, x1, x2, _⟩ => ?qay12) ?_
 case qay12 => (go_simp; try first | rfl | (rw [if_pos (by omega)]) | (rw [if_neg (by omega)]) | (rw [if_neg (by simp; omega)]) | (split <;> first | (exfalso; omega) | rfl))
 refine tH 13 ?qav13 hS (fun w1 ⟨x0, x1, x2, _⟩ => ?qay13) ?_
 case qay13 => (go_simp; try first | rfl | (rw [if_pos (by omega)]) | (rw [if_neg (by omega)]) | (rw [if_neg (by simp; omega)]) | (split <;> first | (exfalso; omega) | rfl))
 refine tH 14 ?qav14 hS (fun w1 ⟨x0, x1, x2, _⟩ => ?qay14) ?_
 case qay14 => (go_simp; try first | rfl | (rw [if_pos (by omega)]) | (rw [if_neg (by omega)]) | (rw [if_neg (by simp; omega)]) | (split <;> first | (exfalso; omega) | rfl))
 refine tH 15 ?qav15 hS (fun w1 ⟨x0, x1, x2, _⟩ => ?qay15) ?_
 case qay15 => (go_simp; try first | rfl | (rw [if_pos (by omega)]) | (rw [if_neg (by omega)]) | (rw [if_neg (by simp; omega)]) | (split <;> first | (exfalso; omega) | rfl))
 simp only [Act.put, List.setIfInBounds_toArray, List.set_cons_succ, List.set_cons_zero]
 refine oneH 9 (by rfl) (by kernel_rfl) (fun K hK => ?_)
 gi_wp2_with (gi_at_call 41; refine (callsIn_wide.2 (HD.out _ (HT.out.below HB.out))).mono ?_; rintro e w2 ⟨rfl, b2⟩)
 have HB2 := Lib.hid (below5 HB.out b2)
 refine hK _ _ (fun _ => HCS.out w2 HB2.out) ?_
 have hS2 := HCS.out w2 HB2.out
 clear hK K hS b2
 have hS := hS2
 clear hS2
 refine tH 10 ?qbv10 hS (fun w1 ⟨x0, x1, x2, _⟩ => ?qby10) ?_
 case qby10 => (go_simp; try first | rfl | (rw [if_pos (by omega)]) | (rw [if_neg (by omega)]) | (rw [if_neg (by simp; omega)]) | (split <;> first | (exfalso; omega) | rfl))
 refine tH 11 ?qbv11 hS (fun w1 ⟨x0, x1, x2, _⟩ => ?qby11) ?_
 case qby11 => (go_simp; try first | rfl | (rw [if_pos (by omega)]) | (rw [if_neg (by omega)]) | (rw [if_neg (by simp; omega)]) | (split <;> first | (exfalso; omega) | rfl))
 simp only [Act.put, List.setIfInBounds_toArray, List.set_cons_succ, List.set_cons_zero]
 refine oneH 16 (by rfl) (by kernel_rfl) (fun K hK => ?_)
 gi_wp2_with (gi_at_call 54; refine (callsIn_wide.2 (HW.out _)).mono ?_; rintro e w3 ⟨rfl, b3⟩)
 have HB3 := Lib.hid (below5 HB2.out b3)
 refine hK _ _ (fun _ => HCS.out w3 HB3.out) ?_
 have hS2 := HCS.out w3 HB3.out
 clear hK K hS b3
 have hS := hS2
 clear hS2
 refine tH 17 ?qcv17 hS (fun w1 ⟨x0, x1, x2, _⟩ => ?qcy17) ?_
 case qcy17 => (go_simp; try first | rfl | (rw [if_pos (by omega)]) | (rw [if_neg (by omega)]) | (rw [if_neg (by simp; omega)]) | (split <;> first | (exfalso; omega) | rfl))
 simp only [Act.put, List.setIfInBounds_toArray, List.set_cons_succ, List.set_cons_zero]
 refine oneH 18 (by rfl) (by kernel_rfl) (fun K hK => ?_)
 gi_wp2_with fail
 refine hK _ _ (fun _ => HCS.out w3 HB3.out) ?_
 clear hK K
 refine doneH (by kernel_rfl) ?_
 gi_wp2_with fail
 go_ret
 refine ⟨?_, HB3.out⟩
 show Ending.returned (.string _) = Ending.returned (.string _)
 congr 2
set_option maxHeartbeats 4000000 in
theorem refFault_any (p : List UInt8) (n k : Nat) (hk : k < 13) (w : World) (hp : p.length <= 50) (hn : n < 9223372036854775808) :
  Calls Tryd.prog 24 #[.agg #[S p, .int .i64 (n : Int), .int .i64 (k : Int)]] w (Gives (S (Tt.errText p n (Tt.errs[k]'hk))) w) := by
 have HD := Lib.hid (fun w => refDecimal_any n hn w)
 have HW := Lib.hid (fun w => refErrWord_any k hk w)
 obtain ⟨D, hD⟩ : ∃ D, Lib.decDigits n = D := ⟨_, rfl⟩
 have hdl : D.length <= 20 := by rw [<- hD]; exact dec_len n (by omega)
 obtain ⟨E, hE⟩ : ∃ E, Tt.errs[k]'hk = E := ⟨_, rfl⟩
 have hel : E.length <= 10 := by rw [<- hE]; exact Tt.errs_len _ (List.getElem_mem _)
 rw [hD] at HD
 rw [hE] at HW ⊢
 have HR : Hid (Tt.errText p n E = p ++ [58] ++ D ++ [58, 32] ++ E) := by show _ = _; unfold Tt.errText; rw [hD]
 clear hD hE
 rw [HR.out]
 refine (callsIn_wide (n := 0)).1 ?_
 refine callsIn_of_wp Tryd.func24 rfl trivial ?_ rfl
 simp only [Tryd.ntmps24, List.size_toArray, List.length_cons, List.length_nil, Nat.reduceAdd, Nat.reduceSub, Array.replicate_succ, Array.replicate_zero, List.push_toArray, List.append_toArray, List.nil_append, List.cons_append]
 gi_wp2_with fail
 have hB := Blk.new w #[S p, .int .i64 (n : Int), .int .i64 (k : Int)] 64
 have hb0 : Below w.heap.size w (w.alloc (.cells #[S p, .int .i64 (n : Int), .int .i64 (k : Int)] 64)) := (Below.refl _ _).alloc (Nat.le_refl _) _
 refine drawnH (List.range 13) (Cs [(⟨w.heap.size, 0, none⟩, S p), (⟨w.heap.size, 1, none⟩, .int .i64 (n : Int)), (⟨w.heap.size, 2, none⟩, .int .i64 (k : Int))]) 13 rfl (by kernel_rfl) ?_
 intro w' hw'
 have hb : Below w.heap.size w w' := by subst hw'; exact hb0.drew
 have hB' : Blk w.heap.size #[S p, .int .i64 (n : Int), .int .i64 (k : Int)] 64 w' := by subst hw'; exact hB
 have HCS : Hid (∀ W', Below w'.heap.size w' W' -> Cs [(⟨w.heap.size, 0, none⟩, S p), (⟨w.heap.size, 1, none⟩, .int .i64 (n : Int)), (⟨w.heap.size, 2, none⟩, .int .i64 (k : Int))] W') := fun W' hW => ⟨(hB'.below hW).cell 0, (hB'.below hW).cell 1, (hB'.below hW).cell 2, trivial⟩
 have hS := HCS.out w' (Below.refl _ _)
 clear hB hb0 hB'
 have HB := Lib.hid hb
 clear hw' hb
 refine tH 0 ?qav0 hS (fun w1 ⟨x0, x1, x2, _⟩ => ?qay0) ?_
 case qay0 => (go_simp; try first | rfl | (rw [if_pos (by omega)]) | (rw [if_neg (by omega)]) | (rw [if_neg (by simp; omega)]) | (split <;> first | (exfalso; omega) | rfl))
 refine tH 1 ?qav1 hS (fun w1 ⟨x0, x1, x2, _⟩ => ?qay1) ?_
 case qay1 => (go_simp; try first | rfl | (rw [if_pos (by omega)]) | (rw [if_neg (by omega)]) | (rw [if_neg (by simp; omega)]) | (split <;> first | (exfalso; omega) | rfl))
 refine tH 2 ?qav2 hS (fun w1 ⟨x0, x1, x2, _⟩ => ?qay2) ?_
 case qay2 => (go_simp; try first | rfl | (rw [if_pos (by omega)]) | (rw [if_neg (by omega)]) | (rw [if_neg (by simp; omega)]) | (split <;> first | (exfalso; omega) | rfl))
 refine tH 3 ?qav3 hS (fun w1 ⟨x0, x1, x2, _⟩ => ?qay3) ?_
 case qay3 => (go_simp; try first | rfl | (rw [if_pos (by omega)]) | (rw [if_neg (by omega)]) | (rw [if_neg (by simp; omega)]) | (split <;> first | (exfalso; omega) | rfl))
 refine tH 4 ?qav4 hS (fun w1 ⟨x0, x1, x2, _⟩ => ?qay4) ?_
 case qay4 => (go_simp; try first | rfl | (rw [if_pos (by omega)]) | (rw [if_neg (by omega)]) | (rw [if_neg (by simp; omega)]) | (split <;> first | (exfalso; omega) | rfl))
 refine tH 8 ?qav8 hS (fun w1 ⟨x0, x1, x2, _⟩ => ?qay8) ?_
 case qay8 => (go_simp; try first | rfl | (rw [if_pos (by omega)]) | (rw [if_neg (by omega)]) | (rw [if_neg (by simp; omega)]) | (split <;> first | (exfalso; omega) | rfl))
 refine tH 9 ?qav9 hS (fun w1 ⟨x0, x1, x2, _⟩ => ?qay9) ?_
 case qay9 => (go_simp; try first | rfl | (rw [if_pos (by omega)]) | (rw [if_neg (by omega)]) | (rw [if_neg (by simp; omega)]) | (split <;> first | (exfalso; omega) | rfl))
 simp only [Act.put, List.setIfInBounds_toArray, List.set_cons_succ, List.set_cons_zero]
 refine oneH 5 (by rfl) (by kernel_rfl) (fun K hK => ?_)
 gi_wp2_with (gi_at_call 44; refine (callsIn_wide.2 (HD.out _)).mono ?_; rintro e w2 ⟨rfl, b2⟩)
 have HB2 := Lib.hid (below5 HB.out b2)
 have HD2 := Lib.hid b2
 refine hK _ _ (fun _ => HCS.out w2 b2) ?_
 have hS2 := HCS.out w2 b2
 clear hK K hS b2
 have hS := hS2
 clear hS2
 refine tH 6 ?qbv6 hS (fun w1 ⟨x0, x1, x2, _⟩ => ?qby6) ?_
 case qby6 => (go_simp; try first | rfl | (rw [if_pos (by omega)]) | (rw [if_neg (by omega)]) | (rw [if_neg (by simp; omega)]) | (split <;> first | (exfalso; omega) | rfl))
 refine tH 7 ?qbv7 hS (fun w1 ⟨x0, x1, x2, _⟩ => ?qby7) ?_
 case qby7 => (go_simp; try first | rfl | (rw [if_pos (by omega)]) | (rw [if_neg (by omega)]) | (rw [if_neg (by simp; omega)]) | (split <;> first | (exfalso; omega) | rfl))
 simp only [Act.put, List.setIfInBounds_toArray, List.set_cons_succ, List.set_cons_zero]
 refine oneH 10 (by rfl) (by kernel_rfl) (fun K hK => ?_)
 gi_wp2_with (gi_at_call 28; refine (callsIn_wide.2 (HW.out _)).mono ?_; rintro e w3 ⟨rfl, b3⟩)
 have HB3 := Lib.hid (below5 HB2.out b3)
 have HD3 := Lib.hid (below5 HD2.out b3)
 refine hK _ _ (fun _ => HCS.out w3 HD3.out) ?_
 have hS2 := HCS.out w3 HD3.out
 clear hK K hS b3
 have hS := hS2
 clear hS2
 refine tH 11 ?qcv11 hS (fun w1 ⟨x0, x1, x2, _⟩ => ?qcy11) ?_
 case qcy11 => (go_simp; try first | rfl | (rw [if_pos (by omega)]) | (rw [if_neg (by omega)]) | (rw [if_neg (by simp; omega)]) | (split <;> first | (exfalso; omega) | rfl))
 simp only [Act.put, List.setIfInBounds_toArray, List.set_cons_succ, List.set_cons_zero]
 refine oneH 12 (by rfl) (by kernel_rfl) (fun K hK => ?_)
 gi_wp2_with fail
 refine hK _ _ (fun _ => HCS.out w3 HD3.out) ?_
 clear hK K
 refine doneH (by kernel_rfl) ?_
 gi_wp2_with fail
 go_ret
 refine ⟨?_, HB3.out⟩
 show Ending.returned (.string _) = Ending.returned (.string _)
 congr 2
end Go.Proofs.YtjhibbjafjhhjaaDoor
