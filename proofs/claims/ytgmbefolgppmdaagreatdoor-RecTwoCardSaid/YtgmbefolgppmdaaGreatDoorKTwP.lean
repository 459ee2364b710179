/- The reference: the text of a record; a row of two records; the order gives -1, 0, 1. -/
import Derived.Test.YtgmbefolgppmdaaGreatDoorKTwN
import Derived.Test.YtgmbefolgppmdaaGreatDoorKReg
import Derived.Test.YtgmbefolgppmdaaGreatDoorKTxK
import Derived.Test.YtgmbefolgppmdaaGreatDoorKSgC
section
namespace Go.Proofs.YtgmbefolgppmdaaGreatDoor
open Go.RowKit Go.Shelf
set_option maxRecDepth 100000
namespace Rc
theorem sgn_range (a b : Int) : -1 <= Nm.sgn a b /\ Nm.sgn a b <= 1 := by unfold Nm.sgn; split <;> (try split) <;> omega
theorem orI_range {x y : Int} (hx : -1 <= x /\ x <= 1) (hy : -1 <= y /\ y <= 1) : -1 <= orI x y /\ orI x y <= 1 := by unfold orI; split <;> assumption
theorem row_range {α : Type} {f : α -> α -> Int} (hf : ∀ x y, -1 <= f x y /\ f x y <= 1) : ∀ a b : List α, -1 <= row f a b /\ row f a b <= 1
 | [], [] => by simp [row]
 | [], _ :: _ => by simp [row]
 | _ :: _, [] => by simp [row]
 | x :: a, y :: b => by
  unfold row
  split
  ·exact hf x y
  ·exact row_range hf a b
theorem bytes_range (a b : List UInt8) : -1 <= Lib.compareBytes a b /\ Lib.compareBytes a b <= 1 := by rcases cmp_range a b with h | h | h <;> omega
theorem cmp_bound (a b : PRec) : -1 <= cmp a b /\ cmp a b <= 1 :=
 orI_range (Nm.cmp_range _ _) (orI_range (sgn_range _ _) (orI_range (sgn_range _ _) (orI_range (row_range (fun x y => Nm.cmp_range x y) _ _) (orI_range (row_range (fun x y : Nat => sgn_range (x : Int) (y : Int)) _ _) (orI_range (row_range bytes_range _ _) (bytes_range _ _))))))
end Rc
theorem join_five (a b c d e s : List UInt8) : Lib.join [a, b, c, d, e] s = a ++ s ++ b ++ s ++ c ++ s ++ d ++ s ++ e := by simp [Lib.join]
theorem recs_two (va vb : List Value) (a b : Rc.PRec) (w : World) (ha : RecRd va a w) (hb : RecRd vb b w) (t : TypeId) :
  RecsRd (.slice (some ⟨w.heap.size, 0, none⟩) 2 2) [(va, a), (vb, b)] (w.alloc (.cells (va ++ vb).toArray t)) := by
 have hB : Below w.heap.size w (w.alloc (.cells (va ++ vb).toArray t)) := (Below.refl _ _).alloc (Nat.le_refl _) _
 refine ⟨fun x hx => ?_, some ⟨w.heap.size, 0, none⟩, 2, rfl, Nat.le_refl _, by unfold maxLen; omega, (fun h => by cases h), fun j hj => ⟨_, rfl, ?_⟩⟩
 ·simp only [List.mem_cons, List.not_mem_nil, or_false] at hx
  rcases hx with rfl | rfl
  ·exact ha.below hB
  ·exact hb.below hB
 ·have he : encP [(va, a), (vb, b)] = va ++ vb := by simp [encP]
  have hadd : (⟨w.heap.size, 0, none⟩ : Addr).add j = ⟨w.heap.size, j, none⟩ := by unfold Addr.add; split <;> simp_all
  rw [hadd, (Blk.new w _ t).cell j]
  have hj' : j < (va ++ vb).length := by rw [he] at hj; exact hj
  simp only [he, List.getElem?_toArray]
  exact List.getElem?_eq_getElem hj'
set_option maxHeartbeats 8000000 in
theorem refRecText_any (vs : List Value) (r : Rc.PRec) (w : World) (h : RecRd vs r w) (no : NB r.owner) (httl : r.ttl < 4294967296) (hf : DF r) (hnum : ∀ n ∈ r.nums, n < 4294967296) (hfm : Tw.form r) (ht1 : 1 <= r.type) (ht2 : r.type <= 65535) :
  Calls Tryz.prog 13 #[.agg vs.toArray] w (Gives (S (Tw.rtext r)) w) := by
 obtain ⟨p0, n0, q0, p1, n1, q1, p2, n2, q2, p3, n3, q3, p4, n4, q4, rfl, hro, hrd⟩ := h.cells
 obtain ⟨ttl, httl'⟩ : ∃ tt, r.ttl = tt := ⟨_, rfl⟩
 rw [httl'] at httl ⊢
 obtain ⟨t, hty⟩ : ∃ t : Nat, r.type = (t : Int) := ⟨r.type.toNat, by omega⟩
 rw [hty] at hrd ⊢
 obtain ⟨nt, hnt⟩ : ∃ x, Nm.text r.owner = x := ⟨_, rfl⟩
 obtain ⟨dt, hdt⟩ : ∃ x, Tw.dtext r = x := ⟨_, rfl⟩
 obtain ⟨tt, htt⟩ : ∃ x, Ty.text t = x := ⟨_, rfl⟩
 obtain ⟨u, hu⟩ : ∃ x, Lib.decDigits ttl = x := ⟨_, rfl⟩
 have hl1 : nt.length <= 5000000 := by rw [<- hnt]; exact nm_text_len no
 have hl2 : u.length <= 20 := by rw [<- hu]; exact dec_len ttl (by omega)
 have hl3 : dt.length <= 1000000000 := by rw [<- hdt]; exact Tw.dtext_len hf hnum
 have hl4 : tt.length <= 1000 := by rw [<- htt]; exact Ty.text_len t (by omega)
 have HOUT : Hid (nt ++ [32] ++ u ++ [32, 73, 78, 32] ++ tt ++ [32] ++ dt = Tw.rtext r) := by
  show _ = _
  unfold Tw.rtext; rw [hnt, httl', hdt, hty, Int.toNat_natCast, htt, hu, join_five]
  simp
 have HN : Hid (∀ W, Below w.heap.size w W -> Calls Tryz.prog 34 #[.slice p0 n0 q0] W (Gives (S nt) W)) := fun W hb => by rw [<- hnt]; exact refNameText_any _ r.owner W (hro.below hb) no
 have HU : Hid (∀ W, Calls Tryz.prog 35 #[.int .i64 (ttl : Int)] W (Gives (S u) W)) := fun W => by rw [<- hu]; exact refDecimal_any ttl (by omega) W
 have HY : Hid (∀ W, Calls Tryz.prog 36 #[.int .i64 (t : Int)] W (Gives (S tt) W)) := fun W => by rw [<- htt]; exact refTText_any t (by omega) W
 have HD : Hid (∀ W, Below w.heap.size w W -> Calls Tryz.prog 37 #[.agg #[.int .i64 (t : Int), .slice p1 n1 q1, .slice p2 n2 q2, .slice p3 n3 q3, .slice p4 n4 q4]] W (Gives (S dt) W)) := fun W hb => by rw [<- hdt]; exact refDataText_any _ r W (hrd.below hb) hf hnum hfm
 have hwc : IntKind.i64.wrap (ttl : Int) = (ttl : Int) := by rw [IntKind.wrap_i64]; omega
 have HKC : Hid (∀ W, Below (w.heap.size + 1) (w.alloc (.cells #[.slice p0 n0 q0, .int .u32 (ttl : Int), .int .i64 (t : Int), .slice p1 n1 q1, .slice p2 n2 q2, .slice p3 n3 q3, .slice p4 n4 q4] 40)) W -> Below w.heap.size w W /\ (W.cell? ⟨w.heap.size, 0, none⟩ = some (.slice p0 n0 q0) /\ W.cell? ⟨w.heap.size, 1, none⟩ = some (.int .u32 (ttl : Int)) /\ W.cell? ⟨w.heap.size, 2, none⟩ = some (.int .i64 (t : Int)) /\ W.cell? ⟨w.heap.size, 3, none⟩ = some (.slice p1 n1 q1) /\ W.cell? ⟨w.heap.size, 4, none⟩ = some (.slice p2 n2 q2) /\ W.cell? ⟨w.heap.size, 5, none⟩ = some (.slice p3 n3 q3) /\ W.cell? ⟨w.heap.size, 6, none⟩ = some (.slice p4 n4 q4))) := fun W hb => by
  have hk : Blk w.heap.size #[.slice p0 n0 q0, .int .u32 (ttl : Int), .int .i64 (t : Int), .slice p1 n1 q1, .slice p2 n2 q2, .slice p3 n3 q3, .slice p4 n4 q4] 40 W := (hb.block w.heap.size (by omega)).trans (Blk.new w _ _)
  exact ⟨((Below.refl _ _).alloc (Nat.le_refl _) _).trans (hb.mono (by omega)), hk.cell 0, hk.cell 1, hk.cell 2, hk.cell 3, hk.cell 4, hk.cell 5, hk.cell 6⟩
 clear hro hrd h no httl hf hnum hfm ht1 ht2 hnt hdt htt hty httl' hu
 rw [<- HOUT.out]
 clear HOUT
 refine (callsIn_wide (n := 0)).1 ?_
 refine callsIn_of_wp Tryz.func13 rfl trivial ?_ rfl
 simp only [Tryz.ntmps13, List.size_toArray, List.length_cons, List.length_nil, Nat.reduceAdd, Nat.reduceSub, Array.replicate_succ, Array.replicate_zero, List.push_toArray, List.append_toArray, List.nil_append, List.cons_append]
 gi_wp2_with fail
 obtain ⟨W1, hW1⟩ : ∃ W1, w.alloc (.cells #[.slice p0 n0 q0, .int .u32 (ttl : Int), .int .i64 (t : Int), .slice p1 n1 q1, .slice p2 n2 q2, .slice p3 n3 q3, .slice p4 n4 q4] 40) = W1 := ⟨_, rfl⟩
 have hs1 : W1.heap.size = w.heap.size + 1 := by rw [<- hW1]; simp
 have HS1 := Lib.hid hs1
 rw [hW1] at HKC ⊢
 clear hW1 hs1
 have HST : Hid (∀ W, Below W1.heap.size W1 W -> Below w.heap.size w W /\ (W.cell? ⟨w.heap.size, 0, none⟩ = some (.slice p0 n0 q0) /\ W.cell? ⟨w.heap.size, 1, none⟩ = some (.int .u32 (ttl : Int)) /\ W.cell? ⟨w.heap.size, 2, none⟩ = some (.int .i64 (t : Int)) /\ W.cell? ⟨w.heap.size, 3, none⟩ = some (.slice p1 n1 q1) /\ W.cell? ⟨w.heap.size, 4, none⟩ = some (.slice p2 n2 q2) /\ W.cell? ⟨w.heap.size, 5, none⟩ = some (.slice p3 n3 q3) /\ W.cell? ⟨w.heap.size, 6, none⟩ = some (.slice p4 n4 q4))) := fun W hb => HKC.out W (hb.mono (by rw [HS1.out]; exact Nat.le_refl _))
 clear HKC
 refine drawnH [1, 2, 3, 5, 7, 8, 9, 12, 13, 14, 15, 17, 18, 19] (fun W => (W.cell? ⟨w.heap.size, 0, none⟩ = some (.slice p0 n0 q0) /\ W.cell? ⟨w.heap.size, 1, none⟩ = some (.int .u32 (ttl : Int)) /\ W.cell? ⟨w.heap.size, 2, none⟩ = some (.int .i64 (t : Int)) /\ W.cell? ⟨w.heap.size, 3, none⟩ = some (.slice p1 n1 q1) /\ W.cell? ⟨w.heap.size, 4, none⟩ = some (.slice p2 n2 q2) /\ W.cell? ⟨w.heap.size, 5, none⟩ = some (.slice p3 n3 q3) /\ W.cell? ⟨w.heap.size, 6, none⟩ = some (.slice p4 n4 q4))) 21 rfl (by kernel_rfl) ?_
 intro w' hw'
 have hbd : Below W1.heap.size W1 w' := by subst hw'; exact (Below.refl _ _).drew
 have hS := (HST.out _ hbd).2
 have HBD := Lib.hid hbd
 clear hw' hbd
 refine tP 0 ?qav0 (fun w1 _ => ?qay0) ?_
 case qay0 => go_simp; try rfl
 refine tP 4 ?qav4 (fun w1 _ => ?qay4) ?_
 case qay4 => go_simp; try rfl
 refine tP 10 ?qav10 (fun w1 _ => ?qay10) ?_
 case qay10 => go_simp; try rfl
 refine tP 11 ?qav11 (fun w1 _ => ?qay11) ?_
 case qay11 => go_simp; try rfl
 refine tP 16 ?qav16 (fun w1 _ => ?qay16) ?_
 case qay16 => go_simp; try rfl
 simp only [Act.put, List.setIfInBounds_toArray, List.set_cons_succ, List.set_cons_zero]
 refine tH 5 ?qav5 hS (fun w1 ⟨d0, d1, d2, d3, d4, d5, d6⟩ => ?qay5) ?_
 case qay5 => go_simp; try rfl
 simp only [Act.put, List.setIfInBounds_toArray, List.set_cons_succ, List.set_cons_zero]
 refine tP 6 ?qav6 (fun w1 _ => ?qay6) ?_
 case qay6 => go_simp; try rfl
 simp only [Act.put, List.setIfInBounds_toArray, List.set_cons_succ, List.set_cons_zero]
 refine tH 1 ?qav1 hS (fun w1 ⟨d0, d1, d2, d3, d4, d5, d6⟩ => ?qay1) ?_
 case qay1 => go_simp; try rfl
 refine tH 12 ?qav12 hS (fun w1 ⟨d0, d1, d2, d3, d4, d5, d6⟩ => ?qay12) ?_
 case qay12 => go_simp; try rfl
 refine tH 17 ?qav17 hS (fun w1 ⟨d0, d1, d2, d3, d4, d5, d6⟩ => ?qay17) ?_
 case qay17 => go_simp; try rfl
 simp only [Act.put, List.setIfInBounds_toArray, List.set_cons_succ, List.set_cons_zero]
 clear hS
 refine oneH 2 (by rfl) (by kernel_rfl) (fun K hK => ?_)
 gi_wp2_with fail
 refine (callsIn_wide.2 (HN.out _ (HST.out _ HBD.out).1)).mono ?_
 rintro e w4 ⟨rfl, b4⟩
 have HB3 := Lib.hid (below5 HBD.out b4)
 clear b4
 gi_wp2_with fail
 refine hK _ _ (fun _ => (HST.out _ HB3.out).2) ?_
 clear hK K
 have hS := (HST.out _ HB3.out).2
 refine tH 3 ?qav3 hS (fun w1 ⟨d0, d1, d2, d3, d4, d5, d6⟩ => ?qay3) ?_
 case qay3 => (go_simp; try first | rfl | (rw [if_pos (by omega)]) | (rw [if_neg (by omega)]) | (rw [if_neg (by simp; omega)]) | (split <;> first | (exfalso; omega) | rfl))
 simp only [Act.put, List.setIfInBounds_toArray, List.set_cons_succ, List.set_cons_zero]
 clear hS
 refine oneH 7 (by rfl) (by kernel_rfl) (fun K hK => ?_)
 gi_wp2_with fail
 refine (callsIn_wide.2 (HU.out _)).mono ?_
 rintro e w4 ⟨rfl, b4⟩
 have HB4 := Lib.hid (below5 HB3.out b4)
 clear b4
 gi_wp2_with fail
 refine hK _ _ (fun _ => (HST.out _ HB4.out).2) ?_
 clear hK K
 have hS := (HST.out _ HB4.out).2
 refine tH 8 ?qav8 hS (fun w1 ⟨d0, d1, d2, d3, d4, d5, d6⟩ => ?qay8) ?_
 case qay8 => (go_simp; try first | rfl | (rw [if_pos (by omega)]) | (rw [if_neg (by omega)]) | (rw [if_neg (by simp; omega)]) | (split <;> first | (exfalso; omega) | rfl))
 refine tH 9 ?qav9 hS (fun w1 ⟨d0, d1, d2, d3, d4, d5, d6⟩ => ?qay9) ?_
 case qay9 => (go_simp; try first | rfl | (rw [if_pos (by omega)]) | (rw [if_neg (by omega)]) | (rw [if_neg (by simp; omega)]) | (split <;> first | (exfalso; omega) | rfl))
 simp only [Act.put, List.setIfInBounds_toArray, List.set_cons_succ, List.set_cons_zero]
 clear hS
 refine oneH 13 (by rfl) (by kernel_rfl) (fun K hK => ?_)
 gi_wp2_with fail
 refine (callsIn_wide.2 (HY.out _)).mono ?_
 rintro e w4 ⟨rfl, b4⟩
 have HB5 := Lib.hid (below5 HB4.out b4)
 clear b4
 gi_wp2_with fail
 refine hK _ _ (fun _ => (HST.out _ HB5.out).2) ?_
 clear hK K
 have hS := (HST.out _ HB5.out).2
 refine tH 14 ?qav14 hS (fun w1 ⟨d0, d1, d2, d3, d4, d5, d6⟩ => ?qay14) ?_
 case qay14 => (go_simp; try first | rfl | (rw [if_pos (by omega)]) | (rw [if_neg (by omega)]) | (rw [if_neg (by simp; omega)]) | (split <;> first | (exfalso; omega) | rfl))
 refine tH 15 ?qav15 hS (fun w1 ⟨d0, d1, d2, d3, d4, d5, d6⟩ => ?qay15) ?_
 case qay15 => (go_simp; try first | rfl | (rw [if_pos (by omega)]) | (rw [if_neg (by omega)]) | (rw [if_neg (by simp; omega)]) | (split <;> first | (exfalso; omega) | rfl))
 simp only [Act.put, List.setIfInBounds_toArray, List.set_cons_succ, List.set_cons_zero]
 clear hS
 refine oneH 18 (by rfl) (by kernel_rfl) (fun K hK => ?_)
 gi_wp2_with fail
 refine (callsIn_wide.2 (HD.out _ (HST.out _ HB5.out).1)).mono ?_
 rintro e w4 ⟨rfl, b4⟩
 have HB6 := Lib.hid (below5 HB5.out b4)
 clear b4
 gi_wp2_with fail
 refine hK _ _ (fun _ => (HST.out _ HB6.out).2) ?_
 clear hK K
 have hS := (HST.out _ HB6.out).2
 refine tH 19 ?qav19 hS (fun w1 ⟨d0, d1, d2, d3, d4, d5, d6⟩ => ?qay19) ?_
 case qay19 => (go_simp; try first | rfl | (rw [if_pos (by omega)]) | (rw [if_neg (by omega)]) | (rw [if_neg (by simp; omega)]) | (split <;> first | (exfalso; omega) | rfl))
 simp only [Act.put, List.setIfInBounds_toArray, List.set_cons_succ, List.set_cons_zero]
 clear hS
 refine oneH 20 (by rfl) (by kernel_rfl) (fun K hK => ?_)
 gi_wp2_with fail
 refine hK _ _ (fun h => by simp at h) ?_
 clear hK K
 refine doneH (by kernel_rfl) ?_
 gi_wp2_with fail
 go_ret
 refine ⟨?_, (HST.out _ HB6.out).1⟩
 exact congrArg Ending.returned (show Value.string _ = Value.string _ by congr 2)
end Go.Proofs.YtgmbefolgppmdaaGreatDoor
end
section
namespace Go.Proofs.YtgmbefolgppmdaaGreatDoor
open Go.RowKit Go.Shelf Go.ChangeShapes Go.WideShapes
set_option maxRecDepth 100000
set_option maxHeartbeats 16000000 in
theorem walkRecTwo (v0 : Value) (a : Rc.PRec) (v1 : Value) (b : Rc.PRec) (w : World) (h0 : ∃ vs, v0 = .agg vs.toArray /\ RecRd vs a w /\ RN a) (h1 : ∃ vs, v1 = .agg vs.toArray /\ RecRd vs b w /\ RN b) (ht : Tab w) (hdb : Db w) :
  Calls Tryz.prog 3 #[v0, v1] w fun e w' => e = .returned (.bool true) /\ Below w.heap.size w w' := by
 obtain ⟨va, rfl, ha, hna⟩ := h0
 obtain ⟨vb, rfl, hb, hnb⟩ := h1
 obtain ⟨a0, na0, qa0, a1, na1, qa1, a2, na2, qa2, a3, na3, qa3, a4, na4, qa4, rfl, _, _⟩ := ha.cells
 obtain ⟨b0, nb0, qb0, b1, nb1, qb1, b2, nb2, qb2, b3, nb3, qb3, b4, nb4, qb4, rfl, _, _⟩ := hb.cells
 obtain ⟨ta, hta⟩ : ∃ x, a.ttl = x := ⟨_, rfl⟩
 obtain ⟨tb, htb⟩ : ∃ x, b.ttl = x := ⟨_, rfl⟩
 obtain ⟨ya, hya⟩ : ∃ x, a.type = x := ⟨_, rfl⟩
 obtain ⟨yb, hyb⟩ : ∃ x, b.type = x := ⟨_, rfl⟩
 rw [hta, hya] at ha ⊢
 rw [htb, hyb] at hb ⊢
 have HA := Lib.hid ha
 have HB := Lib.hid hb
 have HNA := Lib.hid hna
 have HNB := Lib.hid hnb
 have HT := Lib.hid ht
 have HDB := Lib.hid hdb
 obtain ⟨W1, hW1⟩ : ∃ W1, (w.alloc (.cells #[.slice a0 na0 qa0, .int .u32 (ta : Int), .int .i64 ya, .slice a1 na1 qa1, .slice a2 na2 qa2, .slice a3 na3 qa3, .slice a4 na4 qa4] 31)).alloc (.cells #[.slice b0 nb0 qb0, .int .u32 (tb : Int), .int .i64 yb, .slice b1 nb1 qb1, .slice b2 nb2 qb2, .slice b3 nb3 qb3, .slice b4 nb4 qb4] 31) = W1 := ⟨_, rfl⟩
 have hb1 : Below w.heap.size w W1 := by subst hW1; exact ((Below.refl _ _).alloc (Nat.le_refl _) _).alloc (by simp) _
 have hka : Blk w.heap.size #[.slice a0 na0 qa0, .int .u32 (ta : Int), .int .i64 ya, .slice a1 na1 qa1, .slice a2 na2 qa2, .slice a3 na3 qa3, .slice a4 na4 qa4] 31 W1 := by subst hW1; exact (Blk.new w _ _).alloc _
 have hkb : Blk (w.heap.size + 1) #[.slice b0 nb0 qb0, .int .u32 (tb : Int), .int .i64 yb, .slice b1 nb1 qb1, .slice b2 nb2 qb2, .slice b3 nb3 qb3, .slice b4 nb4 qb4] 31 W1 := by
  subst hW1
  have := Blk.new (w.alloc (.cells #[.slice a0 na0 qa0, .int .u32 (ta : Int), .int .i64 ya, .slice a1 na1 qa1, .slice a2 na2 qa2, .slice a3 na3 qa3, .slice a4 na4 qa4] 31)) #[.slice b0 nb0 qb0, .int .u32 (tb : Int), .int .i64 yb, .slice b1 nb1 qb1, .slice b2 nb2 qb2, .slice b3 nb3 qb3, .slice b4 nb4 qb4] 31
  rwa [World.size_alloc] at this
 have HST : Hid (∀ W, Below W1.heap.size W1 W -> Below w.heap.size w W /\ (W.cell? ⟨w.heap.size, 0, none⟩ = some (.slice a0 na0 qa0) /\ W.cell? ⟨w.heap.size, 1, none⟩ = some (.int .u32 (ta : Int)) /\ W.cell? ⟨w.heap.size, 2, none⟩ = some (.int .i64 ya) /\ W.cell? ⟨w.heap.size, 3, none⟩ = some (.slice a1 na1 qa1) /\ W.cell? ⟨w.heap.size, 4, none⟩ = some (.slice a2 na2 qa2) /\ W.cell? ⟨w.heap.size, 5, none⟩ = some (.slice a3 na3 qa3) /\ W.cell? ⟨w.heap.size, 6, none⟩ = some (.slice a4 na4 qa4) /\ W.cell? ⟨(w.heap.size + 1), 0, none⟩ = some (.slice b0 nb0 qb0) /\ W.cell? ⟨(w.heap.size + 1), 1, none⟩ = some (.int .u32 (tb : Int)) /\ W.cell? ⟨(w.heap.size + 1), 2, none⟩ = some (.int .i64 yb) /\ W.cell? ⟨(w.heap.size + 1), 3, none⟩ = some (.slice b1 nb1 qb1) /\ W.cell? ⟨(w.heap.size + 1), 4, none⟩ = some (.slice b2 nb2 qb2) /\ W.cell? ⟨(w.heap.size + 1), 5, none⟩ = some (.slice b3 nb3 qb3) /\ W.cell? ⟨(w.heap.size + 1), 6, none⟩ = some (.slice b4 nb4 qb4))) := fun W hb => ⟨below5 hb1 hb, ⟨(hka.below hb).cell 0, (hka.below hb).cell 1, (hka.below hb).cell 2, (hka.below hb).cell 3, (hka.below hb).cell 4, (hka.below hb).cell 5, (hka.below hb).cell 6, (hkb.below hb).cell 0, (hkb.below hb).cell 1, (hkb.below hb).cell 2, (hkb.below hb).cell 3, (hkb.below hb).cell 4, (hkb.below hb).cell 5, (hkb.below hb).cell 6⟩⟩
 have HW1 := Lib.hid hW1
 have HB1 := Lib.hid hb1
 clear ha hb hna hnb ht hdb hta htb hya hyb hka hkb hW1 hb1
 refine (callsIn_wide (n := 0)).1 ?_
 refine callsIn_of_wp Tryz.func3 rfl trivial ?_ rfl
 simp only [Tryz.ntmps3, List.size_toArray, List.length_cons, List.length_nil, Nat.reduceAdd, Nat.reduceSub, Array.replicate_succ, Array.replicate_zero, List.push_toArray, List.append_toArray, List.nil_append, List.cons_append]
 gi_wp2_with fail
 rw [HW1.out]
 refine (callsIn_wide.2 (known5_any W1 (HT.out.below HB1.out))).mono ?_
 rintro e w2 ⟨rfl, b2⟩
 have HB2 := Lib.hid b2
 obtain ⟨-, c0, c1, c2, c3, c4, c5, c6, d0, d1, d2, d3, d4, d5, d6⟩ := HST.out _ b2
 clear b2
 gi_wp2_with fail
 clear c0 c1 c2 c3 c4 c5 c6 d0 d1 d2 d3 d4 d5 d6
 have HF : Hid (Calls Tryz.prog 5 #[.slice (some ⟨w2.heap.size, 0, none⟩) 2 2] (w2.alloc (.cells (#[.slice a0 na0 qa0, .int .u32 (ta : Int), .int .i64 ya, .slice a1 na1 qa1, .slice a2 na2 qa2, .slice a3 na3 qa3, .slice a4 na4 qa4, .slice b0 nb0 qb0, .int .u32 (tb : Int), .int .i64 yb, .slice b1 nb1 qb1, .slice b2 nb2 qb2, .slice b3 nb3 qb3, .slice b4 nb4 qb4]) 31)) (Says (RF [([.slice a0 na0 qa0, .int .u32 (ta : Int), .int .i64 ya, .slice a1 na1 qa1, .slice a2 na2 qa2, .slice a3 na3 qa3, .slice a4 na4 qa4], a), ([.slice b0 nb0 qb0, .int .u32 (tb : Int), .int .i64 yb, .slice b1 nb1 qb1, .slice b2 nb2 qb2, .slice b3 nb3 qb3, .slice b4 nb4 qb4], b)]) (w2.alloc (.cells (#[.slice a0 na0 qa0, .int .u32 (ta : Int), .int .i64 ya, .slice a1 na1 qa1, .slice a2 na2 qa2, .slice a3 na3 qa3, .slice a4 na4 qa4, .slice b0 nb0 qb0, .int .u32 (tb : Int), .int .i64 yb, .slice b1 nb1 qb1, .slice b2 nb2 qb2, .slice b3 nb3 qb3, .slice b4 nb4 qb4]) 31)))) :=
  few5_any _ _ _ (recs_two [.slice a0 na0 qa0, .int .u32 (ta : Int), .int .i64 ya, .slice a1 na1 qa1, .slice a2 na2 qa2, .slice a3 na3 qa3, .slice a4 na4 qa4] [.slice b0 nb0 qb0, .int .u32 (tb : Int), .int .i64 yb, .slice b1 nb1 qb1, .slice b2 nb2 qb2, .slice b3 nb3 qb3, .slice b4 nb4 qb4] a b w2 (HA.out.below (HST.out _ HB2.out).1) (HB.out.below (HST.out _ HB2.out).1) 31)
 refine (callsIn_wide.2 HF.out).mono ?_
 rintro e w3 ⟨bb, rfl, hq, b3⟩
 have HB3 : Hid (Below W1.heap.size W1 w3) := below5 (HB2.out.alloc HB2.out.size _) b3
 have HQ := Lib.hid hq
 clear b3 hq HF
 cases bb with
 | false =>
  gi_wp2_with fail
  go_ret
  exact ⟨rfl, (HST.out _ HB3.out).1⟩
 | true =>
 have hrf := HQ.out rfl
 have hfa : DF a := hrf.dat ([.slice a0 na0 qa0, .int .u32 (ta : Int), .int .i64 ya, .slice a1 na1 qa1, .slice a2 na2 qa2, .slice a3 na3 qa3, .slice a4 na4 qa4], a) (by simp)
 have hfb : DF b := hrf.dat ([.slice b0 nb0 qb0, .int .u32 (tb : Int), .int .i64 yb, .slice b1 nb1 qb1, .slice b2 nb2 qb2, .slice b3 nb3 qb3, .slice b4 nb4 qb4], b) (by simp)
 have hoa : Nm.few a.owner = true := hrf.owner ([.slice a0 na0 qa0, .int .u32 (ta : Int), .int .i64 ya, .slice a1 na1 qa1, .slice a2 na2 qa2, .slice a3 na3 qa3, .slice a4 na4 qa4], a) (by simp)
 have hob : Nm.few b.owner = true := hrf.owner ([.slice b0 nb0 qb0, .int .u32 (tb : Int), .int .i64 yb, .slice b1 nb1 qb1, .slice b2 nb2 qb2, .slice b3 nb3 qb3, .slice b4 nb4 qb4], b) (by simp)
 have HFA := Lib.hid hfa
 have HRA := Lib.hid (rb_of hoa hfa HNA.out)
 have HRB := Lib.hid (rb_of hob hfb HNB.out)
 have HOA := Lib.hid (NB.few hoa)
 clear hrf hfa hfb hoa hob HQ
 obtain ⟨z, hz⟩ : ∃ z, Tw.chkR a = z := ⟨_, rfl⟩
 have HZ := Lib.hid hz
 obtain ⟨c, hc⟩ : ∃ c, Rc.cmp a b = c := ⟨_, rfl⟩
 have hcr := Rc.cmp_bound a b
 rw [hc] at hcr
 obtain ⟨d, hd⟩ : ∃ d, Rc.cmp b a = d := ⟨_, rfl⟩
 have hdc : 0 - c = d := by have := Rc.cmp_cm.anti a b; rw [hc, hd] at this; omega
 have hwd : IntKind.i64.wrap (0 - c) = d := by rw [hdc, IntKind.wrap_i64]; omega
 have hwd2 : IntKind.i64.wrap (-c) = d := by rw [show -c = d by omega, IntKind.wrap_i64]; omega
 have hwr : IntKind.i64.wrap d = d := by rw [IntKind.wrap_i64]; omega
 obtain ⟨s, hs⟩ : ∃ s, (c == 0) = s := ⟨_, rfl⟩
 have HCH : Hid (∀ W, Below w.heap.size w W -> Calls Tryz.prog 9 #[.agg #[.slice a0 na0 qa0, .int .u32 (ta : Int), .int .i64 ya, .slice a1 na1 qa1, .slice a2 na2 qa2, .slice a3 na3 qa3, .slice a4 na4 qa4]] W (Gives (.int .i64 z) W)) := fun W hb => by
  have := recCheck2_any [.slice a0 na0 qa0, .int .u32 (ta : Int), .int .i64 ya, .slice a1 na1 qa1, .slice a2 na2 qa2, .slice a3 na3 qa3, .slice a4 na4 qa4] a W (HA.out.below hb) HOA.out HFA.out
  rw [hz] at this; exact this
 have HCM : Hid (∀ W, Below w.heap.size w W -> Calls Tryz.prog 10 #[.agg #[.slice a0 na0 qa0, .int .u32 (ta : Int), .int .i64 ya, .slice a1 na1 qa1, .slice a2 na2 qa2, .slice a3 na3 qa3, .slice a4 na4 qa4], .agg #[.slice b0 nb0 qb0, .int .u32 (tb : Int), .int .i64 yb, .slice b1 nb1 qb1, .slice b2 nb2 qb2, .slice b3 nb3 qb3, .slice b4 nb4 qb4]] W (Gives (.int .i64 c) W)) := fun W hb => by
  have := recCompare_any [.slice a0 na0 qa0, .int .u32 (ta : Int), .int .i64 ya, .slice a1 na1 qa1, .slice a2 na2 qa2, .slice a3 na3 qa3, .slice a4 na4 qa4] [.slice b0 nb0 qb0, .int .u32 (tb : Int), .int .i64 yb, .slice b1 nb1 qb1, .slice b2 nb2 qb2, .slice b3 nb3 qb3, .slice b4 nb4 qb4] a b W (HA.out.below hb) (HB.out.below hb) HRA.out HRB.out
  rw [hc] at this; exact this
 have HCM2 : Hid (∀ W, Below w.heap.size w W -> Calls Tryz.prog 10 #[.agg #[.slice b0 nb0 qb0, .int .u32 (tb : Int), .int .i64 yb, .slice b1 nb1 qb1, .slice b2 nb2 qb2, .slice b3 nb3 qb3, .slice b4 nb4 qb4], .agg #[.slice a0 na0 qa0, .int .u32 (ta : Int), .int .i64 ya, .slice a1 na1 qa1, .slice a2 na2 qa2, .slice a3 na3 qa3, .slice a4 na4 qa4]] W (Gives (.int .i64 d) W)) := fun W hb => by
  have := recCompare_any [.slice b0 nb0 qb0, .int .u32 (tb : Int), .int .i64 yb, .slice b1 nb1 qb1, .slice b2 nb2 qb2, .slice b3 nb3 qb3, .slice b4 nb4 qb4] [.slice a0 na0 qa0, .int .u32 (ta : Int), .int .i64 ya, .slice a1 na1 qa1, .slice a2 na2 qa2, .slice a3 na3 qa3, .slice a4 na4 qa4] b a W (HB.out.below hb) (HA.out.below hb) HRB.out HRA.out
  rw [hd] at this; exact this
 have HSM : Hid (∀ W, Below w.heap.size w W -> Calls Tryz.prog 11 #[.agg #[.slice a0 na0 qa0, .int .u32 (ta : Int), .int .i64 ya, .slice a1 na1 qa1, .slice a2 na2 qa2, .slice a3 na3 qa3, .slice a4 na4 qa4], .agg #[.slice b0 nb0 qb0, .int .u32 (tb : Int), .int .i64 yb, .slice b1 nb1 qb1, .slice b2 nb2 qb2, .slice b3 nb3 qb3, .slice b4 nb4 qb4]] W (Gives (.bool s) W)) := fun W hb => by
  have := recSame_any [.slice a0 na0 qa0, .int .u32 (ta : Int), .int .i64 ya, .slice a1 na1 qa1, .slice a2 na2 qa2, .slice a3 na3 qa3, .slice a4 na4 qa4] [.slice b0 nb0 qb0, .int .u32 (tb : Int), .int .i64 yb, .slice b1 nb1 qb1, .slice b2 nb2 qb2, .slice b3 nb3 qb3, .slice b4 nb4 qb4] a b W (HA.out.below hb) (HB.out.below hb) HRA.out HRB.out
  rw [hc, hs] at this; exact this
 have HC := Lib.hid hc
 clear hz hc hd
 obtain ⟨-, c0, c1, c2, c3, c4, c5, c6, d0, d1, d2, d3, d4, d5, d6⟩ := HST.out _ HB3.out
 gi_wp2_with fail
 refine (callsIn_wide.2 (of5_any [.slice a0 na0 qa0, .int .u32 (ta : Int), .int .i64 ya, .slice a1 na1 qa1, .slice a2 na2 qa2, .slice a3 na3 qa3, .slice a4 na4 qa4] a _ (HA.out.below (HST.out _ HB3.out).1) (by have := HFA.out.names; omega))).mono ?_
 clear c0 c1 c2 c3 c4 c5 c6 d0 d1 d2 d3 d4 d5 d6
 rintro e w4 ⟨vo, rfl, hro, b4⟩
 have HRO := Lib.hid hro
 have HB4 := Lib.hid (below5 HB3.out b4)
 clear hro b4
 gi_wp2_with fail
 refine (callsIn_wide.2 (checkRec2_any vo a _ HRO.out HOA.out HFA.out)).mono ?_
 rintro e w5 ⟨rfl, b5⟩
 rw [HZ.out]
 have HB5 := Lib.hid (below5 HB4.out b5)
 clear b5 HRO HB4 HB3 HB2
 gi_wp2_with fail
 refine drawnH [0, 1, 2, 3, 4] (fun W => (W.cell? ⟨w.heap.size, 0, none⟩ = some (.slice a0 na0 qa0) /\ W.cell? ⟨w.heap.size, 1, none⟩ = some (.int .u32 (ta : Int)) /\ W.cell? ⟨w.heap.size, 2, none⟩ = some (.int .i64 ya) /\ W.cell? ⟨w.heap.size, 3, none⟩ = some (.slice a1 na1 qa1) /\ W.cell? ⟨w.heap.size, 4, none⟩ = some (.slice a2 na2 qa2) /\ W.cell? ⟨w.heap.size, 5, none⟩ = some (.slice a3 na3 qa3) /\ W.cell? ⟨w.heap.size, 6, none⟩ = some (.slice a4 na4 qa4) /\ W.cell? ⟨(w.heap.size + 1), 0, none⟩ = some (.slice b0 nb0 qb0) /\ W.cell? ⟨(w.heap.size + 1), 1, none⟩ = some (.int .u32 (tb : Int)) /\ W.cell? ⟨(w.heap.size + 1), 2, none⟩ = some (.int .i64 yb) /\ W.cell? ⟨(w.heap.size + 1), 3, none⟩ = some (.slice b1 nb1 qb1) /\ W.cell? ⟨(w.heap.size + 1), 4, none⟩ = some (.slice b2 nb2 qb2) /\ W.cell? ⟨(w.heap.size + 1), 5, none⟩ = some (.slice b3 nb3 qb3) /\ W.cell? ⟨(w.heap.size + 1), 6, none⟩ = some (.slice b4 nb4 qb4))) 6 rfl (by kernel_rfl) ?_
 intro w' hw'
 have hbd : Below W1.heap.size W1 w' := by subst hw'; exact HB5.out.drew
 have hS := (HST.out _ hbd).2
 have HBD := Lib.hid hbd
 clear hw' hbd
 refine tH 0 ?qav0 hS (fun w1 ⟨c0, c1, c2, c3, c4, c5, c6, d0, d1, d2, d3, d4, d5, d6⟩ => ?qay0) ?_
 case qay0 => go_simp; try rfl
 refine tH 2 ?qav2 hS (fun w1 ⟨c0, c1, c2, c3, c4, c5, c6, d0, d1, d2, d3, d4, d5, d6⟩ => ?qay2) ?_
 case qay2 => go_simp; try rfl
 simp only [Act.put, List.setIfInBounds_toArray, List.set_cons_succ, List.set_cons_zero]
 clear hS
 refine oneH 1 (by rfl) (by kernel_rfl) (fun K hK => ?_)
 gi_wp2_with fail
 refine (callsIn_wide.2 (of5_any [.slice a0 na0 qa0, .int .u32 (ta : Int), .int .i64 ya, .slice a1 na1 qa1, .slice a2 na2 qa2, .slice a3 na3 qa3, .slice a4 na4 qa4] a _ (HA.out.below (HST.out _ HBD.out).1) (by have := HFA.out.names; omega))).mono ?_
 rintro e w6 ⟨vo, rfl, hro, b6⟩
 have HRO := Lib.hid hro
 have HB6 := Lib.hid (below5 HBD.out b6)
 clear hro b6
 gi_wp2_with fail
 refine hK _ _ (fun _ => (HST.out _ HB6.out).2) ?_
 clear hK K
 refine oneH 3 (by rfl) (by kernel_rfl) (fun K hK => ?_)
 gi_wp2_with fail
 refine (callsIn_wide.2 (of5_any [.slice b0 nb0 qb0, .int .u32 (tb : Int), .int .i64 yb, .slice b1 nb1 qb1, .slice b2 nb2 qb2, .slice b3 nb3 qb3, .slice b4 nb4 qb4] b _ (HB.out.below (HST.out _ HB6.out).1) (by have := HRB.out.names; omega))).mono ?_
 rintro e w7 ⟨vp, rfl, hrp, b7⟩
 have HRO7 := Lib.hid (HRO.out.below b7)
 have HRP := Lib.hid hrp
 have HB7 := Lib.hid (below5 HB6.out b7)
 clear hrp b7
 gi_wp2_with fail
 refine hK _ _ (fun _ => (HST.out _ HB7.out).2) ?_
 clear hK K
 refine oneH 4 (by rfl) (by kernel_rfl) (fun K hK => ?_)
 gi_wp2_with fail
 refine (callsIn_wide.2 (refCompareRec_any vo vp a b _ HRO7.out HRP.out HRA.out HRB.out)).mono ?_
 rintro e w8 ⟨rfl, b8⟩
 rw [HC.out]
 have HB8 := Lib.hid (below5 HB7.out b8)
 clear b8 HRO HRO7 HRP
 gi_wp2_with fail
 refine hK _ _ (fun _ => (HST.out _ HB8.out).2) ?_
 clear hK K
 refine oneH 5 (by rfl) (by kernel_rfl) (fun K hK => ?_)
 gi_wp2_with fail
 refine hK _ _ (fun h => by simp at h) ?_
 clear hK K
 refine doneH (by kernel_rfl) ?_
 gi_wp2_with fail
 refine drawnH [0, 3, 4, 5, 6, 7, 8, 9, 10, 11, 12, 13, 14, 15, 16, 17, 18, 19, 20, 21, 22, 23, 24, 25, 26, 27, 28, 29, 30, 31, 32, 33, 34, 35, 36, 37, 38] (fun W => (W.cell? ⟨w.heap.size, 0, none⟩ = some (.slice a0 na0 qa0) /\ W.cell? ⟨w.heap.size, 1, none⟩ = some (.int .u32 (ta : Int)) /\ W.cell? ⟨w.heap.size, 2, none⟩ = some (.int .i64 ya) /\ W.cell? ⟨w.heap.size, 3, none⟩ = some (.slice a1 na1 qa1) /\ W.cell? ⟨w.heap.size, 4, none⟩ = some (.slice a2 na2 qa2) /\ W.cell? ⟨w.heap.size, 5, none⟩ = some (.slice a3 na3 qa3) /\ W.cell? ⟨w.heap.size, 6, none⟩ = some (.slice a4 na4 qa4) /\ W.cell? ⟨(w.heap.size + 1), 0, none⟩ = some (.slice b0 nb0 qb0) /\ W.cell? ⟨(w.heap.size + 1), 1, none⟩ = some (.int .u32 (tb : Int)) /\ W.cell? ⟨(w.heap.size + 1), 2, none⟩ = some (.int .i64 yb) /\ W.cell? ⟨(w.heap.size + 1), 3, none⟩ = some (.slice b1 nb1 qb1) /\ W.cell? ⟨(w.heap.size + 1), 4, none⟩ = some (.slice b2 nb2 qb2) /\ W.cell? ⟨(w.heap.size + 1), 5, none⟩ = some (.slice b3 nb3 qb3) /\ W.cell? ⟨(w.heap.size + 1), 6, none⟩ = some (.slice b4 nb4 qb4))) 40 rfl (by kernel_rfl) ?_
 intro w' hw'
 have hbd : Below W1.heap.size W1 w' := by subst hw'; exact HB8.out.drew
 have hS := (HST.out _ hbd).2
 have HB9 := Lib.hid hbd
 clear hw' hbd
 refine tP 2 ?qbv2 (fun w1 _ => ?qby2) ?_
 case qby2 => go_simp; try rfl
 simp only [Act.put, List.setIfInBounds_toArray, List.set_cons_succ, List.set_cons_zero]
 refine tH 0 ?qbv0 hS (fun w1 ⟨c0, c1, c2, c3, c4, c5, c6, d0, d1, d2, d3, d4, d5, d6⟩ => ?qby0) ?_
 case qby0 => go_simp; try rfl
 simp only [Act.put, List.setIfInBounds_toArray, List.set_cons_succ, List.set_cons_zero]
 clear hS
 refine oneH 1 (by rfl) (by kernel_rfl) (fun K hK => ?_)
 gi_wp2_with fail
 refine (callsIn_wide.2 (HCH.out _ (HST.out _ HB9.out).1)).mono ?_
 rintro e w4 ⟨rfl, b4⟩
 have HB10 := Lib.hid (below5 HB9.out b4)
 clear b4
 gi_wp2_with fail
 refine hK _ _ (fun _ => (HST.out _ HB10.out).2) ?_
 clear hK K
 have hS := (HST.out _ HB10.out).2
 refine tH 3 ?qbv3 hS (fun w1 ⟨c0, c1, c2, c3, c4, c5, c6, d0, d1, d2, d3, d4, d5, d6⟩ => ?qby3) ?_
 case qby3 => go_simp; try rfl
 refine tH 4 ?qbv4 hS (fun w1 ⟨c0, c1, c2, c3, c4, c5, c6, d0, d1, d2, d3, d4, d5, d6⟩ => ?qby4) ?_
 case qby4 => go_simp; try rfl
 refine tH 5 ?qbv5 hS (fun w1 ⟨c0, c1, c2, c3, c4, c5, c6, d0, d1, d2, d3, d4, d5, d6⟩ => ?qby5) ?_
 case qby5 => go_simp; try rfl
 refine tH 6 ?qbv6 hS (fun w1 ⟨c0, c1, c2, c3, c4, c5, c6, d0, d1, d2, d3, d4, d5, d6⟩ => ?qby6) ?_
 case qby6 => go_simp; try rfl
 refine tH 8 ?qbv8 hS (fun w1 ⟨c0, c1, c2, c3, c4, c5, c6, d0, d1, d2, d3, d4, d5, d6⟩ => ?qby8) ?_
 case qby8 => go_simp; try rfl
 simp only [Act.put, List.setIfInBounds_toArray, List.set_cons_succ, List.set_cons_zero]
 clear hS
 refine oneH 7 (by rfl) (by kernel_rfl) (fun K hK => ?_)
 gi_wp2_with fail
 refine (callsIn_wide.2 (HCM.out _ (HST.out _ HB10.out).1)).mono ?_
 rintro e w4 ⟨rfl, b4⟩
 have HB11 := Lib.hid (below5 HB10.out b4)
 clear b4
 gi_wp2_with fail
 refine hK _ _ (fun _ => (HST.out _ HB11.out).2) ?_
 clear hK K
 have hS := (HST.out _ HB11.out).2
 refine tH 9 ?qbv9 hS (fun w1 ⟨c0, c1, c2, c3, c4, c5, c6, d0, d1, d2, d3, d4, d5, d6⟩ => ?qby9) ?_
 case qby9 => go_simp; try rfl
 refine tH 10 ?qbv10 hS (fun w1 ⟨c0, c1, c2, c3, c4, c5, c6, d0, d1, d2, d3, d4, d5, d6⟩ => ?qby10) ?_
 case qby10 => go_simp; try rfl
 refine tH 11 ?qbv11 hS (fun w1 ⟨c0, c1, c2, c3, c4, c5, c6, d0, d1, d2, d3, d4, d5, d6⟩ => ?qby11) ?_
 case qby11 => go_simp; try rfl
 refine tH 12 ?qbv12 hS (fun w1 ⟨c0, c1, c2, c3, c4, c5, c6, d0, d1, d2, d3, d4, d5, d6⟩ => ?qby12) ?_
 case qby12 => go_simp; try rfl
 refine tH 13 ?qbv13 hS (fun w1 ⟨c0, c1, c2, c3, c4, c5, c6, d0, d1, d2, d3, d4, d5, d6⟩ => ?qby13) ?_
 case qby13 => go_simp; try rfl
 refine tH 15 ?qbv15 hS (fun w1 ⟨c0, c1, c2, c3, c4, c5, c6, d0, d1, d2, d3, d4, d5, d6⟩ => ?qby15) ?_
 case qby15 => go_simp; try rfl
 refine tH 16 ?qbv16 hS (fun w1 ⟨c0, c1, c2, c3, c4, c5, c6, d0, d1, d2, d3, d4, d5, d6⟩ => ?qby16) ?_
 case qby16 => go_simp; try rfl
 simp only [Act.put, List.setIfInBounds_toArray, List.set_cons_succ, List.set_cons_zero]
 clear hS
 refine oneH 14 (by rfl) (by kernel_rfl) (fun K hK => ?_)
 gi_wp2_with fail
 refine (callsIn_wide.2 (HCM2.out _ (HST.out _ HB11.out).1)).mono ?_
 rintro e w4 ⟨rfl, b4⟩
 have HB12 := Lib.hid (below5 HB11.out b4)
 clear b4
 gi_wp2_with fail
 refine hK _ _ (fun _ => (HST.out _ HB12.out).2) ?_
 clear hK K
 have hS := (HST.out _ HB12.out).2
 refine tH 17 ?qbv17 hS (fun w1 ⟨c0, c1, c2, c3, c4, c5, c6, d0, d1, d2, d3, d4, d5, d6⟩ => ?qby17) ?_
 case qby17 => go_simp; try rfl
 refine tH 18 ?qbv18 hS (fun w1 ⟨c0, c1, c2, c3, c4, c5, c6, d0, d1, d2, d3, d4, d5, d6⟩ => ?qby18) ?_
 case qby18 => go_simp; try rfl
 refine tH 19 ?qbv19 hS (fun w1 ⟨c0, c1, c2, c3, c4, c5, c6, d0, d1, d2, d3, d4, d5, d6⟩ => ?qby19) ?_
 case qby19 => go_simp; try rfl
 refine tH 20 ?qbv20 hS (fun w1 ⟨c0, c1, c2, c3, c4, c5, c6, d0, d1, d2, d3, d4, d5, d6⟩ => ?qby20) ?_
 case qby20 => go_simp; try rfl
 refine tH 21 ?qbv21 hS (fun w1 ⟨c0, c1, c2, c3, c4, c5, c6, d0, d1, d2, d3, d4, d5, d6⟩ => ?qby21) ?_
 case qby21 => go_simp; try rfl
 refine tH 23 ?qbv23 hS (fun w1 ⟨c0, c1, c2, c3, c4, c5, c6, d0, d1, d2, d3, d4, d5, d6⟩ => ?qby23) ?_
 case qby23 => go_simp; try rfl
 refine tH 24 ?qbv24 hS (fun w1 ⟨c0, c1, c2, c3, c4, c5, c6, d0, d1, d2, d3, d4, d5, d6⟩ => ?qby24) ?_
 case qby24 => go_simp; try rfl
 simp only [Act.put, List.setIfInBounds_toArray, List.set_cons_succ, List.set_cons_zero]
 clear hS
 refine oneH 22 (by rfl) (by kernel_rfl) (fun K hK => ?_)
 gi_wp2_with fail
 refine (callsIn_wide.2 (HSM.out _ (HST.out _ HB12.out).1)).mono ?_
 rintro e w4 ⟨rfl, b4⟩
 have HB13 := Lib.hid (below5 HB12.out b4)
 clear b4
 gi_wp2_with fail
 refine hK _ _ (fun _ => (HST.out _ HB13.out).2) ?_
 clear hK K
 have hS := (HST.out _ HB13.out).2
 refine tH 25 ?qbv25 hS (fun w1 ⟨c0, c1, c2, c3, c4, c5, c6, d0, d1, d2, d3, d4, d5, d6⟩ => ?qby25) ?_
 case qby25 => go_simp; try rfl
 refine tH 26 ?qbv26 hS (fun w1 ⟨c0, c1, c2, c3, c4, c5, c6, d0, d1, d2, d3, d4, d5, d6⟩ => ?qby26) ?_
 case qby26 => go_simp; try rfl
 refine tH 27 ?qbv27 hS (fun w1 ⟨c0, c1, c2, c3, c4, c5, c6, d0, d1, d2, d3, d4, d5, d6⟩ => ?qby27) ?_
 case qby27 => go_simp; try rfl
 refine tH 28 ?qbv28 hS (fun w1 ⟨c0, c1, c2, c3, c4, c5, c6, d0, d1, d2, d3, d4, d5, d6⟩ => ?qby28) ?_
 case qby28 => go_simp; try rfl
 simp only [Act.put, List.setIfInBounds_toArray, List.set_cons_succ, List.set_cons_zero]
 by_cases hz0 : z = 0
 case neg =>
  have hz1 : (z != 0) = true := by simpa using hz0
  refine tH 29 ?qcv29 hS (fun w1 ⟨c0, c1, c2, c3, c4, c5, c6, d0, d1, d2, d3, d4, d5, d6⟩ => ?qcy29) ?_
  case qcy29 => go_simp; try rfl
  refine tH 30 ?qcv30 hS (fun w1 ⟨c0, c1, c2, c3, c4, c5, c6, d0, d1, d2, d3, d4, d5, d6⟩ => ?qcy30) ?_
  case qcy30 => go_simp; try rfl
  simp only [Act.put, List.setIfInBounds_toArray, List.set_cons_succ, List.set_cons_zero]
  refine tU 31 hS ?_
  refine tU 32 hS ?_
  refine tU 33 hS ?_
  refine tU 34 hS ?_
  refine tU 35 hS ?_
  refine tU 36 hS ?_
  simp only [Act.put, List.setIfInBounds_toArray, List.set_cons_succ, List.set_cons_zero]
  refine tH 37 ?qdv37 hS (fun w1 ⟨c0, c1, c2, c3, c4, c5, c6, d0, d1, d2, d3, d4, d5, d6⟩ => ?qdy37) ?_
  case qdy37 => go_simp; try rfl
  refine tH 38 ?qdv38 hS (fun w1 ⟨c0, c1, c2, c3, c4, c5, c6, d0, d1, d2, d3, d4, d5, d6⟩ => ?qdy38) ?_
  case qdy38 => go_simp; try rfl
  simp only [Act.put, List.setIfInBounds_toArray, List.set_cons_succ, List.set_cons_zero]
  clear hS
  refine oneH 39 (by rfl) (by kernel_rfl) (fun K hK => ?_)
  gi_wp2_with fail
  refine hK _ _ (fun h => by simp at h) ?_
  clear hK K
  refine doneH (by kernel_rfl) ?_
  gi_wp2_with fail
  go_ret
  exact ⟨rfl, (HST.out _ HB13.out).1⟩
 case pos =>
  subst hz0
  have hfm := Tw.chk_zero (Tw.chkR_zero HZ.out)
  obtain ⟨x, hx⟩ : ∃ x, Tw.rtext a = x := ⟨_, rfl⟩
  have HTX : Hid (∀ W, Below w.heap.size w W -> Calls Tryz.prog 12 #[.agg #[.slice a0 na0 qa0, .int .u32 (ta : Int), .int .i64 ya, .slice a1 na1 qa1, .slice a2 na2 qa2, .slice a3 na3 qa3, .slice a4 na4 qa4]] W (Gives (S x) W)) := fun W hb => by
   have := recText_any [.slice a0 na0 qa0, .int .u32 (ta : Int), .int .i64 ya, .slice a1 na1 qa1, .slice a2 na2 qa2, .slice a3 na3 qa3, .slice a4 na4 qa4] a W (HA.out.below hb) HOA.out HRA.out.ttl HFA.out HRA.out.nums.2 hfm.2.2 hfm.1 hfm.2.1 (HT.out.below hb) (HDB.out.below hb)
   rw [hx] at this; exact this
  have HRX : Hid (∀ W vs, RecRd vs a W -> Calls Tryz.prog 13 #[.agg vs.toArray] W (Gives (S x) W)) := fun W vs hr => by
   have := refRecText_any vs a W hr HOA.out HRA.out.ttl HFA.out HRA.out.nums.2 hfm.2.2 hfm.1 hfm.2.1
   rw [hx] at this; exact this
  clear hfm hx
  refine tH 29 ?qev29 hS (fun w1 ⟨c0, c1, c2, c3, c4, c5, c6, d0, d1, d2, d3, d4, d5, d6⟩ => ?qey29) ?_
  case qey29 => go_simp; try rfl
  refine tH 30 ?qev30 hS (fun w1 ⟨c0, c1, c2, c3, c4, c5, c6, d0, d1, d2, d3, d4, d5, d6⟩ => ?qey30) ?_
  case qey30 => go_simp; try rfl
  refine tH 31 ?qev31 hS (fun w1 ⟨c0, c1, c2, c3, c4, c5, c6, d0, d1, d2, d3, d4, d5, d6⟩ => ?qey31) ?_
  case qey31 => go_simp; try rfl
  refine tH 33 ?qev33 hS (fun w1 ⟨c0, c1, c2, c3, c4, c5, c6, d0, d1, d2, d3, d4, d5, d6⟩ => ?qey33) ?_
  case qey33 => go_simp; try rfl
  simp only [Act.put, List.setIfInBounds_toArray, List.set_cons_succ, List.set_cons_zero]
  clear hS
  refine oneH 32 (by rfl) (by kernel_rfl) (fun K hK => ?_)
  gi_wp2_with fail
  refine (callsIn_wide.2 (HTX.out _ (HST.out _ HB13.out).1)).mono ?_
  rintro e w4 ⟨rfl, b4⟩
  have HB14 := Lib.hid (below5 HB13.out b4)
  clear b4
  gi_wp2_with fail
  refine hK _ _ (fun _ => (HST.out _ HB14.out).2) ?_
  clear hK K
  have hS := (HST.out _ HB14.out).2
  clear hS
  refine oneH 34 (by rfl) (by kernel_rfl) (fun K hK => ?_)
  gi_wp2_with fail
  refine (callsIn_wide.2 (of5_any [.slice a0 na0 qa0, .int .u32 (ta : Int), .int .i64 ya, .slice a1 na1 qa1, .slice a2 na2 qa2, .slice a3 na3 qa3, .slice a4 na4 qa4] a _ (HA.out.below (HST.out _ HB14.out).1) (by have := HFA.out.names; omega))).mono ?_
  rintro e w6 ⟨vq, rfl, hro, b6⟩
  have HRO := Lib.hid hro
  have HB15 := Lib.hid (below5 HB14.out b6)
  clear hro b6
  gi_wp2_with fail
  refine hK _ _ (fun _ => (HST.out _ HB15.out).2) ?_
  clear hK K
  refine oneH 35 (by rfl) (by kernel_rfl) (fun K hK => ?_)
  gi_wp2_with fail
  refine (callsIn_wide.2 (HRX.out _ _ HRO.out)).mono ?_
  rintro e w4 ⟨rfl, b4⟩
  have HB16 := Lib.hid (below5 HB15.out b4)
  clear b4
  gi_wp2_with fail
  refine hK _ _ (fun _ => (HST.out _ HB16.out).2) ?_
  clear hK K
  have hS := (HST.out _ HB16.out).2
  refine tH 36 ?qev36 hS (fun w1 ⟨c0, c1, c2, c3, c4, c5, c6, d0, d1, d2, d3, d4, d5, d6⟩ => ?qey36) ?_
  case qey36 => go_simp; try rfl
  refine tH 37 ?qev37 hS (fun w1 ⟨c0, c1, c2, c3, c4, c5, c6, d0, d1, d2, d3, d4, d5, d6⟩ => ?qey37) ?_
  case qey37 => go_simp; try rfl
  refine tH 38 ?qev38 hS (fun w1 ⟨c0, c1, c2, c3, c4, c5, c6, d0, d1, d2, d3, d4, d5, d6⟩ => ?qey38) ?_
  case qey38 => go_simp; try rfl
  simp only [Act.put, List.setIfInBounds_toArray, List.set_cons_succ, List.set_cons_zero]
  clear hS
  refine oneH 39 (by rfl) (by kernel_rfl) (fun K hK => ?_)
  gi_wp2_with fail
  refine hK _ _ (fun h => by simp at h) ?_
  clear hK K
  refine doneH (by kernel_rfl) ?_
  gi_wp2_with fail
  go_ret
  exact ⟨rfl, (HST.out _ HB16.out).1⟩
theorem open_C {H : Type} {enc : TypeId × Value -> H} {W : World} {base : Nat} {sp : Nat -> Bool} {held : Bool} {r : Reach} {b0 : Nat} {v : Value} {d : DataW H} {ps : List MemPlace} (hval : Value.okWide Tryz.prog W r b0 31 v) (hd : DataW.Trod enc Tryz.prog W base sp held 31 v d ps) : ∃ a : Rc.PRec, ∃ vs, v = .agg vs.toArray /\ RecRd vs a W /\ RN a := by
 obtain ⟨cs, rfl, _⟩ := okWide_struct Tryz.underlying31 hval
 obtain ⟨fuel, hf⟩ := hd
 obtain ⟨a, h1, h2⟩ := rec_of hf
 exact ⟨a, _, by simp [Value.cells], h1, h2⟩
end Go.Proofs.YtgmbefolgppmdaaGreatDoor
end
