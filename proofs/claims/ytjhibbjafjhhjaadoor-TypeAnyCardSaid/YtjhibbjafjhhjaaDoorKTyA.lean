/- Types of records: what a text is of. -/
import Derived.Test.YtjhibbjafjhhjaaDoorKTySpec
import Derived.Test.YtjhibbjafjhhjaaDoorKLabA
import Derived.Test.YtjhibbjafjhhjaaDoorKTxC
import Derived.Test.YtjhibbjafjhhjaaDoorKReg
namespace Go.Proofs.YtjhibbjafjhhjaaDoor
open Go.RowKit Go.Shelf
set_option maxRecDepth 100000
def encRP (p : List UInt8 × Int) : List Value := [S p.1, .int .i64 p.2]
def Ty.types : List (List UInt8 × Int) := Ty.names.map fun p => (Lb.fold p.2, p.1)
theorem info_rp : (Tryd.prog.info? 105).map (fun i => (i.zero, i.size, i.bytes)) = some (some (.agg #[.string ⟨#[]⟩, .int .i64 0]), 2, 24) := by kernel_rfl
set_option maxHeartbeats 4000000 in
theorem types_any (w : World) : Calls Tryd.prog 33 #[] w fun e w' => ∃ v, e = .returned v /\ GRd 2 v (Ty.types.map encRP) w' /\ Below w.heap.size w w' := by
 refine (callsIn_wide (n := 0)).1 ?_
 refine callsIn_of_wp Tryd.func33 rfl trivial ?_ rfl
 simp only [Tryd.ntmps33, List.size_toArray, List.length_nil, Nat.reduceSub, Array.replicate_succ, Array.replicate_zero, List.push_toArray, List.append_toArray, List.nil_append, List.cons_append]
 gi_wp2_with fail
 refine (callsIn_wide.2 (names_any _)).mono ?_
 rintro e w1 ⟨rfl, hg, b1⟩
 have HG := Lib.hid hg
 have HB1 := Lib.hid b1
 obtain ⟨ga, hge⟩ : ∃ g : Addr, (⟨w.heap.size, 0, none⟩ : Addr) = g := ⟨_, rfl⟩
 rw [hge] at HG ⊢
 clear hg b1 hge
 gi_wp2_with fail
 gi_loopw [1, 6] (fun v1 v6 W => ∃ k : Nat, k <= 9 /\ v6 = .int .i64 k /\ Row (fun g => w1.heap.size <= g) 105 2 v1 k ((Ty.types.take k).map encRP).flatten W /\ Below w1.heap.size w1 W) (fun _ v6 _ => 9 - (intOf v6).toNat)
 case atStart => exact ⟨0, Nat.zero_le _, rfl, Row.nil _ _ _ _, Below.refl _ _⟩
 case round =>
  obtain ⟨k, hk, rfl, hrow, hb⟩ := hrel
  have HROW := Lib.hid hrow
  have HB := Lib.hid hb
  clear hrow hb
  by_cases hlt : k < 9
  case neg =>
   have hlz : ¬ ((k : Int) < 9) := by omega
   obtain rfl : k = 9 := by omega
   gi_wp2_with fail
   go_ret
   refine ⟨_, rfl, Row.grd (xs := Ty.types.map encRP) HROW.out (fun x hx => by
    obtain ⟨y, _, rfl⟩ := List.mem_map.1 hx
    exact ⟨rfl, fun u hu => by simp only [encRP, List.mem_cons, List.not_mem_nil, or_false] at hu; rcases hu with rfl | rfl <;> rfl⟩), below5 HB1.out HB.out⟩
  case pos =>
  have hlz : (k : Int) < 9 := by omega
  have hkn : k < Ty.names.length := hlt
  obtain ⟨t, s, hx⟩ : ∃ t s, Ty.names[k] = (t, s) := ⟨_, _, rfl⟩
  obtain ⟨a, ha, e0, e1⟩ := (HG.out.below HB.out).at (by decide) k (by rw [List.length_map]; exact hkn)
  cases ha
  have e1 := e1 1 (by decide) (by decide)
  rw [List.getElem_map, hx] at e0 e1
  simp only [encPr, List.getElem?_cons_zero, List.getElem?_cons_succ] at e0 e1
  obtain ⟨z, hz⟩ : ∃ z, ga.add (k * 2) = z := ⟨_, rfl⟩
  rw [hz] at e0 e1
  have HX := Lib.hid hx
  have HSL : Hid (s.length <= 1000000) := by
   have : (Ty.names.all fun p => decide (p.2.length <= 5)) = true := by decide
   have h := List.all_eq_true.1 this _ (List.getElem_mem hkn)
   rw [hx] at h; simp only [decide_eq_true_eq] at h
   show _ <= _; omega
  clear hx
  obtain ⟨b, hbe⟩ : ∃ b, wr.heap.size = b := ⟨_, rfl⟩
  have HB2 : Hid (Below w1.heap.size w1 (wr.alloc (.cells #[.int .i64 t, S s] 91))) := HB.out.alloc HB.out.size _
  have HROW2 := Lib.hid (HROW.out.below ((Below.refl wr.heap.size wr).alloc (Nat.le_refl _) (.cells #[.int .i64 t, S s] 91)))
  have HLT : Hid (∀ g, u1.ownBlock = some g -> g ≠ b) := fun g hg => by have := HROW.out.ltH hg; omega
  have HBK : Hid (Blk b #[.int .i64 t, S s] 91 (wr.alloc (.cells #[.int .i64 t, S s] 91))) := by show Blk _ _ _ _; rw [<- hbe]; exact Blk.new wr _ _
  gi_wp2_with fail
  obtain ⟨wu, hwu⟩ : ∃ x, wr.alloc (.cells #[.int .i64 t, S s] 91) = x := ⟨_, rfl⟩
  rw [hwu] at HB2 HROW2 HBK ⊢
  clear hwu HROW HB e0 e1 hbe hz
  refine drawnH [2, 3, 5, 6, 7, 8] (fun W => W.cell? ⟨b, 0, none⟩ = some (.int .i64 t) /\ W.cell? ⟨b, 1, none⟩ = some (S s)) 10 rfl (by kernel_rfl) ?_
  intro w2 hw2
  have B2 : Hid (Below w1.heap.size w1 w2) := by subst hw2; exact HB2.out.drew
  have R2 : Hid (Row (fun g => w1.heap.size <= g) 105 2 u1 k ((Ty.types.take k).map encRP).flatten w2) := by subst hw2; exact HROW2.out.below (Below.refl _ _).drew
  have BK2 : Hid (Blk b #[.int .i64 t, S s] 91 w2) := by subst hw2; exact HBK.out.below (Below.refl _ _).drew
  have hS : w2.cell? ⟨b, 0, none⟩ = some (.int .i64 t) /\ w2.cell? ⟨b, 1, none⟩ = some (S s) := ⟨BK2.out.cell 0, BK2.out.cell 1⟩
  clear hw2 HB2 HROW2 HBK
  refine tP 0 ?qav0 (fun w1 _ => ?qay0) ?_
  case qay0 => (go_simp; try first | rfl | (rw [if_pos (by omega)]) | (rw [if_neg (by omega)]) | (rw [if_neg (by simp; omega)]) | (split <;> first | (exfalso; omega) | rfl))
  refine tP 1 ?qav1 (fun w1 _ => ?qay1) ?_
  case qay1 => (go_simp; try first | rfl | (rw [if_pos (by omega)]) | (rw [if_neg (by omega)]) | (rw [if_neg (by simp; omega)]) | (split <;> first | (exfalso; omega) | rfl))
  refine tP 4 ?qav4 (fun w1 _ => ?qay4) ?_
  case qay4 => (go_simp; try first | rfl | (rw [if_pos (by omega)]) | (rw [if_neg (by omega)]) | (rw [if_neg (by simp; omega)]) | (split <;> first | (exfalso; omega) | rfl))
  simp only [Act.put, List.setIfInBounds_toArray, List.set_cons_succ, List.set_cons_zero]
  refine tH 2 ?qbv2 hS (fun w1 ⟨c0, c1⟩ => ?qby2) ?_
  case qby2 => (go_simp; try first | rfl | (rw [if_pos (by omega)]) | (rw [if_neg (by omega)]) | (rw [if_neg (by simp; omega)]) | (split <;> first | (exfalso; omega) | rfl))
  refine tH 5 ?qbv5 hS (fun w1 ⟨c0, c1⟩ => ?qby5) ?_
  case qby5 => (go_simp; try first | rfl | (rw [if_pos (by omega)]) | (rw [if_neg (by omega)]) | (rw [if_neg (by simp; omega)]) | (split <;> first | (exfalso; omega) | rfl))
  simp only [Act.put, List.setIfInBounds_toArray, List.set_cons_succ, List.set_cons_zero]
  refine oneH 3 (by rfl) (by kernel_rfl) (fun K hK => ?_)
  gi_wp2_with (gi_at_call 31; refine (callsIn_wide.2 (fold_any s w2 HSL.out)).mono ?_; rintro e w3 ⟨rfl, b3⟩)
  have B3 := Lib.hid (below5 B2.out b3)
  have R3 := Lib.hid (R2.out.below b3)
  have BK3 := Lib.hid (BK2.out.below b3)
  replace hS : w3.cell? ⟨b, 0, none⟩ = some (.int .i64 t) /\ w3.cell? ⟨b, 1, none⟩ = some (S s) := ⟨BK3.out.cell 0, BK3.out.cell 1⟩
  refine hK _ _ (fun _ => hS) ?_
  clear hK K b3 B2 R2 BK2
  refine oneH 6 (by rfl) (by kernel_rfl) (fun K hK => ?_)
  gi_wp2_with fail
  refine hK _ _ (fun _ => hS) ?_
  clear hK K
  refine oneH 7 (by rfl) (by kernel_rfl) (fun K hK => ?_)
  gi_wp2_with fail
  have B4 : Hid (Below w1.heap.size w1 (w3.alloc (.cells #[S (Lb.fold s), .int .i64 t] 105))) := B3.out.alloc B3.out.size _
  have b34 : Below w3.heap.size w3 (w3.alloc (.cells #[S (Lb.fold s), .int .i64 t] 105)) := (Below.refl _ _).alloc (Nat.le_refl _) _
  have R4 := Lib.hid (R3.out.below b34)
  have BK4 := Lib.hid (BK3.out.below b34)
  replace hS := (show _ /\ _ from ⟨BK4.out.cell 0, BK4.out.cell 1⟩)
  refine hK _ _ (fun _ => hS) ?_
  clear hK K
  refine oneH 8 (by rfl) (by kernel_rfl) (fun K hK => ?_)
  refine append_g (fun g => w1.heap.size <= g) 105 _ 2 24 info_rp rfl (by decide) rfl _ _ _ Tryd.underlying78 rfl _ k ((Ty.types.take k).map encRP) (by rfl) R4.out _ [[S (Lb.fold s), .int .i64 t]] (by rfl) (GRd.new [S (Lb.fold s), .int .i64 t] rfl (fun u hu => by simp only [List.mem_cons, List.not_mem_nil, or_false] at hu; rcases hu with rfl | rfl <;> rfl) w3 _) (by simp; omega) (by omega) B4.out.size ?_
  intro v8 w8 hrow8 hgr8
  have B8 : Hid (Below w1.heap.size w1 w8) := B4.out.grown hgr8 B4.out.size (fun g hg => R4.out.2 g hg)
  have hrow9 : Row (fun g => w1.heap.size <= g) 105 2 v8 (k + 1) ((Ty.types.take (k + 1)).map encRP).flatten w8 := by
   have e : (Ty.types.take (k + 1)).map encRP = (Ty.types.take k).map encRP ++ [[S (Lb.fold s), .int .i64 t]] := by
    have hkt : k < Ty.types.length := hlt
    have ht : Ty.types[k]'hkt = (Lb.fold s, t) := by simp only [Ty.types, List.getElem_map, HX.out]
    rw [List.take_succ_eq_append_getElem hkt, List.map_append, ht]; rfl
   rw [e]; exact hrow8
  have R8 := Lib.hid hrow9
  obtain ⟨o8, c8, rfl⟩ := hrow9.form
  have BK8 : Hid (Blk b #[.int .i64 t, S s] 91 w8) := BK4.out.grown' hgr8 (fun g hg => HLT.out g hg)
  refine hK _ _ (fun _ => ⟨BK8.out.cell 0, BK8.out.cell 1⟩) ?_
  clear hK K hrow8 hgr8 hrow9 hS
  refine oneH 9 (by rfl) (by kernel_rfl) (fun K hK => ?_)
  gi_wp2_with fail
  refine hK _ _ (fun h => absurd h (by decide)) ?_
  clear hK K
  refine doneH (by kernel_rfl) ?_
  gi_wp2_with fail
  exact ⟨⟨k + 1, hlt, by go_num, R8.out, B8.out⟩, by simp [intOf]; omega⟩
set_option maxHeartbeats 1000000 in
theorem findSI_any (v : Value) (l : List (List UInt8 × Int)) (key : List UInt8) (w : World) (hv : GRd 2 v (l.map encRP) w) (hn : l.length <= 1000) :
  Calls Tryd.prog 32 #[v, S key] w (Gives (.tuple #[.int .i64 (((l.find? fun p => p.1 == key).map (·.2)).getD 0), .bool (l.find? fun p => p.1 == key).isSome]) w) := by
 obtain ⟨o, cap, rfl, h1, h2⟩ := hv.form
 rw [List.length_map] at h1 ⊢
 rw [List.length_map] at hv
 have HV := Lib.hid hv
 have lz : (l.length : Int) <= 1000 := by omega
 clear hv
 go_enter Tryd.func32, Tryd.ntmps32
 go_wp2
 go_loopw [11] (fun vi W => ∃ k : Nat, k <= l.length /\ vi = .int .i64 k /\ Hid ((l.find? fun p => p.1 == key) = (l.drop k).find? fun p => p.1 == key) /\ Below w.heap.size w W) (fun vi _ => l.length - (intOf vi).toNat)
 case atStart => exact ⟨0, Nat.zero_le _, rfl, rfl, Below.refl _ _⟩
 case round =>
  obtain ⟨k, hk, rfl, hf, hb⟩ := hrel
  by_cases hlt : k < l.length
  ·have hlz : (k : Int) < (l.length : Int) := by omega
   obtain ⟨t, s, hx⟩ : ∃ t s, l[k] = (t, s) := ⟨_, _, rfl⟩
   obtain ⟨a, rfl, e0, e1⟩ := (HV.out.below hb).at (by decide) k (by rw [List.length_map]; exact hlt)
   have e1 := e1 1 (by decide) (by decide)
   rw [List.getElem_map, hx] at e0 e1
   simp only [encRP, List.getElem?_cons_zero, List.getElem?_cons_succ] at e0 e1
   obtain ⟨z, hz⟩ : ∃ z, a.add (k * 2) = z := ⟨_, rfl⟩
   rw [hz] at e0 e1
   have HX := Lib.hid hx
   have HB := Lib.hid hb
   by_cases hq : t = key
   ·have hq' : (t == key) = true := by simpa using hq
    subst hq
    go_wp2
    go_ret2
    refine ⟨?_, ?_⟩
    ·rw [hf.out, List.drop_eq_getElem_cons hlt, HX.out, List.find?_cons, hq']; rfl
    ·exact HB.out.alloc (by have := HB.out.size; omega) _
   ·have hq' : (t == key) = false := by simpa using hq
    have hqa : ¬ ((⟨t.toArray⟩ : ByteArray) = ⟨key.toArray⟩) := by intro h; apply hq; simpa using h
    go_wp2
    refine ⟨⟨k + 1, hlt, by go_num, ?_, ?_⟩, by simp [intOf]; omega⟩
    ·show _ = _
     rw [hf.out]; exact find_next hlt (by rw [HX.out]; exact hq')
    ·exact HB.out.alloc (by have := HB.out.size; omega) _
  ·have hlz : ¬ (k : Int) < (l.length : Int) := by omega
   have HB := Lib.hid hb
   have hN : (l.find? fun p => p.1 == key) = none := by rw [hf.out, List.drop_eq_nil_of_le (by omega)]; rfl
   have HN := Lib.hid hN
   clear hN hf
   go_wp2
   go_ret2
   rw [HN.out]
   exact ⟨rfl, HB.out⟩
end Go.Proofs.YtjhibbjafjhhjaaDoor
