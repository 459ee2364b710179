/- Records: which of two stands first. -/
import Derived.Test.YtgmbefolgppmdaaGreatDoorKRcA
import Derived.Test.YtgmbefolgppmdaaGreatDoorKReg
namespace Go.Proofs.YtgmbefolgppmdaaGreatDoor
open Go.RowKit Go.Shelf
set_option maxRecDepth 100000
def NmsRd (v : Value) (ns : List (List (List UInt8))) (W : World) : Prop := ∃ us, us.length = ns.length /\ Sl v us W /\ ∀ i (h : i < us.length) (h' : i < ns.length), Rd us[i] ns[i] W
theorem NmsRd.below {v ns} {W W' : World} (h : NmsRd v ns W) (hb : Below W.heap.size W W') : NmsRd v ns W' := by
 obtain ⟨us, h1, h2, h3⟩ := h
 exact ⟨us, h1, h2.below hb, fun i hi hi' => (h3 i hi hi').below hb⟩
def numC (ns : List Nat) : List Value := ns.map fun n : Nat => Value.int .u32 (n : Int)
def DatRd (vs : List Value) (r : Rc.PRec) (W : World) : Prop :=
 ∃ vn vm vt vr, vs = [.int .i64 r.type, vn, vm, vt, vr] /\ NmsRd vn r.names W /\ Sl vm (numC r.nums) W /\ Rd vt r.texts W /\ BtRd vr r.raw W
theorem DatRd.below {vs r} {W W' : World} (h : DatRd vs r W) (hb : Below W.heap.size W W') : DatRd vs r W' := by
 obtain ⟨vn, vm, vt, vr, h1, h2, h3, h4, h5⟩ := h
 exact ⟨vn, vm, vt, vr, h1, h2.below hb, h3.below hb, h4.below hb, Sl.below h5 hb⟩
def RecRd (vs : List Value) (r : Rc.PRec) (W : World) : Prop := ∃ vo ds, vs = vo :: .int .u32 (r.ttl : Int) :: ds /\ Rd vo r.owner W /\ DatRd ds r W
theorem RecRd.below {vs r} {W W' : World} (h : RecRd vs r W) (hb : Below W.heap.size W W') : RecRd vs r W' := by
 obtain ⟨vo, ds, h1, h2, h3⟩ := h
 exact ⟨vo, ds, h1, h2.below hb, h3.below hb⟩
structure RB (r : Rc.PRec) : Prop where
 owner : NB r.owner
 names : r.names.length <= 1000 /\ ∀ n ∈ r.names, NB n
 nums : r.nums.length <= 1000 /\ ∀ n ∈ r.nums, n < 4294967296
 texts : r.texts.length <= 1000
 ttl : r.ttl < 4294967296
theorem Sl.built (w : World) (cs : List Value) (t : TypeId) (hc : cs.length <= maxLen) : Sl (.slice (some ⟨w.heap.size, 0, none⟩) cs.length cs.length) cs (w.alloc (.cells cs.toArray t)) := by
 refine ⟨_, _, rfl, Nat.le_refl _, hc, (fun h => by cases h), fun j hj => ⟨_, rfl, ?_⟩⟩
 have hadd : (⟨w.heap.size, 0, none⟩ : Addr).add j = ⟨w.heap.size, j, none⟩ := by unfold Addr.add; split <;> simp_all
 rw [hadd, cell_of_row (w.alloc (.cells cs.toArray t)) w.heap.size j _ t (0, 0) (World.alloc_heap_new w _)]
 simp [hj]
def Bx5 (g : Nat) (c0 c1 c2 c3 c4 : Value) (W : World) : Prop :=
 W.cell? ⟨g, 0, none⟩ = some c0 /\ W.cell? ⟨g, 1, none⟩ = some c1 /\ W.cell? ⟨g, 2, none⟩ = some c2 /\ W.cell? ⟨g, 3, none⟩ = some c3 /\ W.cell? ⟨g, 4, none⟩ = some c4
theorem Bx5.below {g c0 c1 c2 c3 c4} {W W' : World} (h : Bx5 g c0 c1 c2 c3 c4 W) (hb : Below W.heap.size W W') : Bx5 g c0 c1 c2 c3 c4 W' := by
 obtain ⟨h0, h1, h2, h3, h4⟩ := h
 exact ⟨(hb.cell (cell_lt h0)).trans h0, (hb.cell (cell_lt h1)).trans h1, (hb.cell (cell_lt h2)).trans h2, (hb.cell (cell_lt h3)).trans h3, (hb.cell (cell_lt h4)).trans h4⟩
theorem Rc.cmpD_first (a b : Rc.PRec) : Rc.cmpD a b = Rc.firstI [Nm.sgn a.type b.type, Rc.row Nm.cmp a.names b.names, Rc.row (fun x y : Nat => Nm.sgn x y) a.nums b.nums, Rc.row Lib.compareBytes a.texts b.texts, Lib.compareBytes a.raw b.raw] := by
 have h0 : ∀ x : Int, Rc.firstI [x] = x := fun x => by simp only [Rc.firstI]; split <;> omega
 unfold Rc.cmpD Rc.orI
 rw [Rc.firstI, Rc.firstI, Rc.firstI, Rc.firstI, h0]
theorem Rc.cmp_first (a b : Rc.PRec) : Rc.cmp a b = Rc.firstI [Nm.cmp a.owner b.owner, Nm.sgn a.type b.type, Rc.cmpD a b] := by
 have h0 : ∀ x : Int, Rc.firstI [x] = x := fun x => by simp only [Rc.firstI]; split <;> omega
 unfold Rc.cmp Rc.orI
 rw [Rc.firstI, Rc.firstI, h0]
theorem two_boxes (w : World) (c d : Array Value) (t t' : TypeId) : ((w.alloc (.cells c t)).alloc (.cells d t')).drew.heap[w.heap.size]? = some (.cells c t (0, 0)) /\ ((w.alloc (.cells c t)).alloc (.cells d t')).drew.heap[w.heap.size + 1]? = some (.cells d t' (0, 0)) := by
 constructor
 ·show ((w.heap.push _).push _)[w.heap.size]? = _
  simp [Array.getElem?_push]
 ·show ((w.heap.push _).push _)[w.heap.size + 1]? = _
  rw [Array.getElem?_push, if_pos (by simp)]
theorem Bx5.of {W : World} {g : Nat} {c0 c1 c2 c3 c4 : Value} {t : TypeId} (h : W.heap[g]? = some (.cells #[c0, c1, c2, c3, c4] t (0, 0))) : Bx5 g c0 c1 c2 c3 c4 W := by
 refine ⟨?_, ?_, ?_, ?_, ?_⟩ <;> rw [cell_of_row W g _ _ _ _ h] <;> rfl
theorem eg_name (args : Array Value) (w : World) : (callFunc 26 args).run Tryz.prog w = .ok (.enter 26 args) w := by simp [go_sem]
theorem eg_cmpU (args : Array Value) (w : World) : (callFunc 58 args).run Tryz.prog w = .ok (.enter 58 args) w := by simp [go_sem]
theorem eg_strs (args : Array Value) (w : World) : (callFunc 60 args).run Tryz.prog w = .ok (.enter 60 args) w := by simp [go_sem]
theorem cmpNames {v u : Value} {a b : List (List (List UInt8))} {w : World} (hv : NmsRd v a w) (hu : NmsRd u b w) (ha : a.length <= 1000 /\ ∀ n ∈ a, NB n) (hb : b.length <= 1000 /\ ∀ n ∈ b, NB n) :
  Calls Tryz.prog 56 #[v, u, .func (.func 26) #[] #[]] w (Gives (.int .i64 (Rc.row Nm.cmp a b)) w) := by
 obtain ⟨us, l1, s1, r1⟩ := hv
 obtain ⟨vs, l2, s2, r2⟩ := hu
 refine names_row Nm.cmp a b us vs v u w _ eg_name s1 s2 l1 l2 (by omega) (by omega) (fun wr hwr k h1 h2 h3 h4 => ?_)
 exact nCompare_any _ _ _ _ _ ((r1 k h1 h3).below hwr) ((r2 k h2 h4).below hwr) (ha.2 _ (List.getElem_mem _)) (hb.2 _ (List.getElem_mem _))
theorem cmpNums {v u : Value} {a b : List Nat} {w : World} (hv : Sl v (numC a) w) (hu : Sl u (numC b) w) (ha : a.length <= 1000) (hb : b.length <= 1000) :
  Calls Tryz.prog 57 #[v, u, .func (.func 58) #[] #[]] w (Gives (.int .i64 (Rc.row (fun x y : Nat => Nm.sgn x y) a b)) w) := by
 refine nums_row (fun x y : Nat => Nm.sgn x y) a b (numC a) (numC b) v u w _ eg_cmpU hv hu (by simp [numC]) (by simp [numC]) (by omega) (by omega) (fun wr hwr k h1 h2 h3 h4 => ?_)
 simp only [numC, List.getElem_map]
 refine (cmpU_any _ _ _).mono ?_
 rintro e w1 ⟨rfl, rfl⟩
 exact ⟨rfl, Below.refl _ _⟩
theorem cmpTexts {v u : Value} {a b : List (List UInt8)} {w : World} (hv : Rd v a w) (hu : Rd u b w) (ha : a.length <= 1000) (hb : b.length <= 1000) :
  Calls Tryz.prog 59 #[v, u, .func (.func 60) #[] #[]] w (Gives (.int .i64 (Rc.row Lib.compareBytes a b)) w) := by
 refine texts_row Lib.compareBytes a b (a.map S) (b.map S) v u w _ eg_strs hv.sl hu.sl (by simp) (by simp) (by omega) (by omega) (fun wr hwr k h1 h2 h3 h4 => ?_)
 simp only [List.getElem_map]
 refine (Tryz.strings_Compare _ _ _).mono ?_
 rintro e w1 ⟨rfl, rfl⟩
 exact ⟨rfl, Below.refl _ _⟩
set_option maxHeartbeats 4000000 in
theorem rdCompare_any (va vb : List Value) (a b : Rc.PRec) (w : World) (ha : DatRd va a w) (hb : DatRd vb b w) (na : RB a) (nb : RB b) :
  Calls Tryz.prog 28 #[.agg va.toArray, .agg vb.toArray] w (Gives (.int .i64 (Rc.cmpD a b)) w) := by
 obtain ⟨an, am, at', ar, rfl, a1, a2, a3, a4⟩ := ha
 obtain ⟨bn, bm, bt, br, rfl, b1, b2, b3, b4⟩ := hb
 obtain ⟨z1, hz1⟩ : ∃ z, Nm.sgn a.type b.type = z := ⟨_, rfl⟩
 obtain ⟨z2, hz2⟩ : ∃ z, Rc.row Nm.cmp a.names b.names = z := ⟨_, rfl⟩
 obtain ⟨z3, hz3⟩ : ∃ z, Rc.row (fun x y : Nat => Nm.sgn x y) a.nums b.nums = z := ⟨_, rfl⟩
 obtain ⟨z4, hz4⟩ : ∃ z, Rc.row Lib.compareBytes a.texts b.texts = z := ⟨_, rfl⟩
 obtain ⟨z5, hz5⟩ : ∃ z, Lib.compareBytes a.raw b.raw = z := ⟨_, rfl⟩
 have hr := Rc.cmpD_first a b
 rw [hz1, hz2, hz3, hz4, hz5] at hr
 have HR := Lib.hid hr
 have HZ := Lib.hid (And.intro hz1 (And.intro hz2 (And.intro hz3 (And.intro hz4 hz5))))
 have A1 := Lib.hid a1
 have A2 := Lib.hid a2
 have A3 := Lib.hid a3
 have A4 := Lib.hid a4
 have B1 := Lib.hid b1
 have B2 := Lib.hid b2
 have B3 := Lib.hid b3
 have B4 := Lib.hid b4
 have NA := Lib.hid na
 have NB' := Lib.hid nb
 obtain ⟨ta, hta⟩ : ∃ t, a.type = t := ⟨_, rfl⟩
 obtain ⟨tb, htb⟩ : ∃ t, b.type = t := ⟨_, rfl⟩
 have HT := Lib.hid (And.intro hta htb)
 rw [hta, htb]
 clear a1 a2 a3 a4 b1 b2 b3 b4 na nb hr hz1 hz2 hz3 hz4 hz5 hta htb
 refine (callsIn_wide (n := 0)).1 ?_
 refine callsIn_of_wp Tryz.func28 rfl trivial ?_ rfl
 simp only [Tryz.ntmps28, List.size_toArray, List.length_cons, List.length_nil, Nat.reduceAdd, Nat.reduceSub, Array.replicate_succ, Array.replicate_zero, List.push_toArray, List.append_toArray, List.nil_append, List.cons_append]
 gi_wp2_with fail
 refine drawnH [1, 3, 4, 6, 8, 9, 11, 13, 14, 16, 18, 19, 21, 23, 24, 25, 26] (fun w' => Bx5 w.heap.size (.int .i64 ta) an am at' ar w' /\ Bx5 (w.heap.size + 1) (.int .i64 tb) bn bm bt br w') 28 rfl (by kernel_rfl) ?_
 intro w' hw'
 have hS : Bx5 w.heap.size (.int .i64 ta) an am at' ar w' /\ Bx5 (w.heap.size + 1) (.int .i64 tb) bn bm bt br w' := by
  have := two_boxes w #[.int .i64 ta, an, am, at', ar] #[.int .i64 tb, bn, bm, bt, br] 29 29
  subst hw'; exact ⟨Bx5.of this.1, Bx5.of this.2⟩
 have hb : Below w.heap.size w w' := by subst hw'; exact (((Below.refl _ _).alloc (Nat.le_refl _) _).alloc (by simp) _).drew
 clear hw'
 refine tP 0 ?qv0 (fun w1 _ => ?qy0) ?_
 case qy0 => go_simp; try rfl
 refine tP 2 ?qv2 (fun w1 _ => ?qy2) ?_
 case qy2 => go_simp; try rfl
 refine tP 5 ?qv5 (fun w1 _ => ?qy5) ?_
 case qy5 => go_simp; try rfl
 refine tP 7 ?qv7 (fun w1 _ => ?qy7) ?_
 case qy7 => go_simp; try rfl
 refine tP 10 ?qv10 (fun w1 _ => ?qy10) ?_
 case qy10 => go_simp; try rfl
 refine tP 12 ?qv12 (fun w1 _ => ?qy12) ?_
 case qy12 => go_simp; try rfl
 refine tP 15 ?qv15 (fun w1 _ => ?qy15) ?_
 case qy15 => go_simp; try rfl
 refine tP 17 ?qv17 (fun w1 _ => ?qy17) ?_
 case qy17 => go_simp; try rfl
 refine tP 20 ?qv20 (fun w1 _ => ?qy20) ?_
 case qy20 => go_simp; try rfl
 refine tP 22 ?qv22 (fun w1 _ => ?qy22) ?_
 case qy22 => go_simp; try rfl
 refine tH 1 ?qv1 hS (fun w1 ⟨⟨c0, c1, c2, c3, c4⟩, d0, d1, d2, d3, d4⟩ => ?qy1) ?_
 case qy1 => go_simp; try rfl
 refine tH 3 ?qv3 hS (fun w1 ⟨⟨c0, c1, c2, c3, c4⟩, d0, d1, d2, d3, d4⟩ => ?qy3) ?_
 case qy3 => go_simp; try rfl
 refine tH 6 ?qv6 hS (fun w1 ⟨⟨c0, c1, c2, c3, c4⟩, d0, d1, d2, d3, d4⟩ => ?qy6) ?_
 case qy6 => go_simp; try rfl
 refine tH 8 ?qv8 hS (fun w1 ⟨⟨c0, c1, c2, c3, c4⟩, d0, d1, d2, d3, d4⟩ => ?qy8) ?_
 case qy8 => go_simp; try rfl
 refine tH 11 ?qv11 hS (fun w1 ⟨⟨c0, c1, c2, c3, c4⟩, d0, d1, d2, d3, d4⟩ => ?qy11) ?_
 case qy11 => go_simp; try rfl
 refine tH 13 ?qv13 hS (fun w1 ⟨⟨c0, c1, c2, c3, c4⟩, d0, d1, d2, d3, d4⟩ => ?qy13) ?_
 case qy13 => go_simp; try rfl
 refine tH 16 ?qv16 hS (fun w1 ⟨⟨c0, c1, c2, c3, c4⟩, d0, d1, d2, d3, d4⟩ => ?qy16) ?_
 case qy16 => go_simp; try rfl
 refine tH 18 ?qv18 hS (fun w1 ⟨⟨c0, c1, c2, c3, c4⟩, d0, d1, d2, d3, d4⟩ => ?qy18) ?_
 case qy18 => go_simp; try rfl
 refine tH 21 ?qv21 hS (fun w1 ⟨⟨c0, c1, c2, c3, c4⟩, d0, d1, d2, d3, d4⟩ => ?qy21) ?_
 case qy21 => go_simp; try rfl
 refine tH 23 ?qv23 hS (fun w1 ⟨⟨c0, c1, c2, c3, c4⟩, d0, d1, d2, d3, d4⟩ => ?qy23) ?_
 case qy23 => go_simp; try rfl
 simp only [Act.put, List.setIfInBounds_toArray, List.set_cons_succ, List.set_cons_zero]
 refine oneH 4 (by rfl) (by kernel_rfl) (fun K hK => ?_)
 gi_wp2_with (gi_at_call 27; refine (callsIn_wide.2 (cmpInt_any _ _ _)).mono ?_; rintro e w1 ⟨rfl, rfl⟩; rw [show Nm.sgn ta tb = z1 by rw [<- HT.out.1, <- HT.out.2]; exact HZ.out.1])
 refine hK _ _ (fun _ => hS) ?_
 clear hK K
 refine oneH 9 (by rfl) (by kernel_rfl) (fun K hK => ?_)
 gi_wp2_with (gi_at_call 56; refine (callsIn_wide.2 (cmpNames (A1.out.below hb) (B1.out.below hb) NA.out.names NB'.out.names)).mono ?_; rintro e w2 ⟨rfl, b2⟩; rw [HZ.out.2.1])
 have hS2 := And.intro (hS.1.below b2) (hS.2.below b2)
 have hb2 := below5 hb b2
 clear hS hb b2
 refine hK _ _ (fun _ => hS2) ?_
 clear hK K
 refine oneH 14 (by rfl) (by kernel_rfl) (fun K hK => ?_)
 gi_wp2_with (gi_at_call 57; refine (callsIn_wide.2 (cmpNums (A2.out.below hb2) (B2.out.below hb2) NA.out.nums.1 NB'.out.nums.1)).mono ?_; rintro e w3 ⟨rfl, b3⟩; rw [HZ.out.2.2.1])
 have hS3 := And.intro (hS2.1.below b3) (hS2.2.below b3)
 have hb3 := below5 hb2 b3
 clear hS2 hb2 b3
 refine hK _ _ (fun _ => hS3) ?_
 clear hK K
 refine oneH 19 (by rfl) (by kernel_rfl) (fun K hK => ?_)
 gi_wp2_with (gi_at_call 59; refine (callsIn_wide.2 (cmpTexts (A3.out.below hb3) (B3.out.below hb3) NA.out.texts NB'.out.texts)).mono ?_; rintro e w4 ⟨rfl, b4⟩; rw [HZ.out.2.2.2.1])
 have hS4 := And.intro (hS3.1.below b4) (hS3.2.below b4)
 have hb4 := below5 hb3 b4
 clear hS3 hb3 b4
 refine hK _ _ (fun _ => hS4) ?_
 clear hK K
 refine oneH 24 (by rfl) (by kernel_rfl) (fun K hK => ?_)
 gi_wp2_with (gi_at_call 61; refine (callsIn_wide.2 (bytesCompare_any _ _ _ _ _ (Sl.below A4.out hb4) (Sl.below B4.out hb4))).mono ?_; rintro e w5 ⟨rfl, rfl⟩; rw [HZ.out.2.2.2.2])
 refine hK _ _ (fun _ => hS4) ?_
 clear hK K
 refine oneH 25 (by rfl) (by kernel_rfl) (fun K hK => ?_)
 gi_wp2_with fail
 refine hK _ _ (fun _ => ⟨hS4.1.below ((Below.refl _ _).alloc (Nat.le_refl _) _), hS4.2.below ((Below.refl _ _).alloc (Nat.le_refl _) _)⟩) ?_
 clear hK K
 have hsl := Sl.built w4 ([z1, z2, z3, z4, z5].map fun n : Int => Value.int .i64 n) 3 (by simp; unfold maxLen; omega)
 have hb5 := hb4.alloc hb4.size (.cells ([z1, z2, z3, z4, z5].map fun n : Int => Value.int .i64 n).toArray 3)
 refine oneH 26 (by rfl) (by kernel_rfl) (fun K hK => ?_)
 gi_wp2_with (gi_at_call 25; refine (callsIn_wide.2 (cmpOr_any _ [z1, z2, z3, z4, z5] _ hsl (by simp))).mono ?_; rintro e w6 ⟨rfl, rfl⟩; rw [<- HR.out])
 refine hK _ _ (fun _ => ⟨hS4.1.below ((Below.refl _ _).alloc (Nat.le_refl _) _), hS4.2.below ((Below.refl _ _).alloc (Nat.le_refl _) _)⟩) ?_
 clear hK K
 refine oneH 27 (by rfl) (by kernel_rfl) (fun K hK => ?_)
 gi_wp2_with fail
 refine hK _ _ (fun h => absurd h (by decide)) ?_
 clear hK K
 refine doneH (by kernel_rfl) ?_
 gi_wp2_with fail
 go_ret
 exact ⟨rfl, hb5⟩
def Bx7 (g : Nat) (c0 c1 c2 c3 c4 c5 c6 : Value) (W : World) : Prop :=
 W.cell? ⟨g, 0, none⟩ = some c0 /\ W.cell? ⟨g, 1, none⟩ = some c1 /\ W.cell? ⟨g, 2, none⟩ = some c2 /\ W.cell? ⟨g, 3, none⟩ = some c3 /\ W.cell? ⟨g, 4, none⟩ = some c4 /\ W.cell? ⟨g, 5, none⟩ = some c5 /\ W.cell? ⟨g, 6, none⟩ = some c6
theorem Bx7.below {g c0 c1 c2 c3 c4 c5 c6} {W W' : World} (h : Bx7 g c0 c1 c2 c3 c4 c5 c6 W) (hb : Below W.heap.size W W') : Bx7 g c0 c1 c2 c3 c4 c5 c6 W' := by
 obtain ⟨h0, h1, h2, h3, h4, h5, h6⟩ := h
 exact ⟨(hb.cell (cell_lt h0)).trans h0, (hb.cell (cell_lt h1)).trans h1, (hb.cell (cell_lt h2)).trans h2, (hb.cell (cell_lt h3)).trans h3, (hb.cell (cell_lt h4)).trans h4, (hb.cell (cell_lt h5)).trans h5, (hb.cell (cell_lt h6)).trans h6⟩
theorem Bx7.of {W : World} {g : Nat} {c0 c1 c2 c3 c4 c5 c6 : Value} {t : TypeId} (h : W.heap[g]? = some (.cells #[c0, c1, c2, c3, c4, c5, c6] t (0, 0))) : Bx7 g c0 c1 c2 c3 c4 c5 c6 W := by
 refine ⟨?_, ?_, ?_, ?_, ?_, ?_, ?_⟩ <;> rw [cell_of_row W g _ _ _ _ h] <;> rfl
set_option maxHeartbeats 4000000 in
theorem recCompare_any (va vb : List Value) (a b : Rc.PRec) (w : World) (ha : RecRd va a w) (hb : RecRd vb b w) (na : RB a) (nb : RB b) :
  Calls Tryz.prog 10 #[.agg va.toArray, .agg vb.toArray] w (Gives (.int .i64 (Rc.cmp a b)) w) := by
 obtain ⟨ao, ad, rfl, a0, hda⟩ := ha
 obtain ⟨bo, bd, rfl, b0, hdb⟩ := hb
 have HDA := Lib.hid hda
 have HDB := Lib.hid hdb
 obtain ⟨an, am, at', ar, rfl, _⟩ := hda
 obtain ⟨bn, bm, bt, br, rfl, _⟩ := hdb
 obtain ⟨z1, hz1⟩ : ∃ z, Nm.cmp a.owner b.owner = z := ⟨_, rfl⟩
 obtain ⟨z2, hz2⟩ : ∃ z, Nm.sgn a.type b.type = z := ⟨_, rfl⟩
 obtain ⟨z3, hz3⟩ : ∃ z, Rc.cmpD a b = z := ⟨_, rfl⟩
 have hr := Rc.cmp_first a b
 rw [hz1, hz2, hz3] at hr
 have HR := Lib.hid hr
 have HZ := Lib.hid (And.intro hz1 (And.intro hz2 hz3))
 have A0 := Lib.hid a0
 have B0 := Lib.hid b0
 have NA := Lib.hid na
 have NB' := Lib.hid nb
 clear a0 b0 na nb hr hz1 hz2 hz3
 refine (callsIn_wide (n := 0)).1 ?_
 refine callsIn_of_wp Tryz.func10 rfl trivial ?_ rfl
 simp only [Tryz.ntmps10, List.size_toArray, List.length_cons, List.length_nil, Nat.reduceAdd, Nat.reduceSub, Array.replicate_succ, Array.replicate_zero, List.push_toArray, List.append_toArray, List.nil_append, List.cons_append]
 gi_wp2_with fail
 refine drawnH [1, 3, 4, 7, 10, 11, 13, 15, 16, 17, 18] (fun w' => Bx7 w.heap.size ao (.int .u32 (a.ttl : Int)) (.int .i64 a.type) an am at' ar w' /\ Bx7 (w.heap.size + 1) bo (.int .u32 (b.ttl : Int)) (.int .i64 b.type) bn bm bt br w') 20 rfl (by kernel_rfl) ?_
 intro w' hw'
 have hS : Bx7 w.heap.size ao (.int .u32 (a.ttl : Int)) (.int .i64 a.type) an am at' ar w' /\ Bx7 (w.heap.size + 1) bo (.int .u32 (b.ttl : Int)) (.int .i64 b.type) bn bm bt br w' := by
  have := two_boxes w #[ao, .int .u32 (a.ttl : Int), .int .i64 a.type, an, am, at', ar] #[bo, .int .u32 (b.ttl : Int), .int .i64 b.type, bn, bm, bt, br] 31 31
  subst hw'; exact ⟨Bx7.of this.1, Bx7.of this.2⟩
 have hb : Below w.heap.size w w' := by subst hw'; exact (((Below.refl _ _).alloc (Nat.le_refl _) _).alloc (by simp) _).drew
 clear hw'
 refine tP 0 ?qv0 (fun w1 _ => ?qy0) ?_
 case qy0 => go_simp; try rfl
 refine tP 2 ?qv2 (fun w1 _ => ?qy2) ?_
 case qy2 => go_simp; try rfl
 refine tP 5 ?qv5 (fun w1 _ => ?qy5) ?_
 case qy5 => go_simp; try rfl
 refine tP 6 ?qv6 (fun w1 _ => ?qy6) ?_
 case qy6 => go_simp; try rfl
 refine tP 8 ?qv8 (fun w1 _ => ?qy8) ?_
 case qy8 => go_simp; try rfl
 refine tP 9 ?qv9 (fun w1 _ => ?qy9) ?_
 case qy9 => go_simp; try rfl
 refine tP 12 ?qv12 (fun w1 _ => ?qy12) ?_
 case qy12 => go_simp; try rfl
 refine tP 14 ?qv14 (fun w1 _ => ?qy14) ?_
 case qy14 => go_simp; try rfl
 refine tH 1 ?qv1 hS (fun w1 ⟨⟨c0, c1, c2, c3, c4, c5, c6⟩, d0, d1, d2, d3, d4, d5, d6⟩ => ?qy1) ?_
 case qy1 => go_simp; try rfl
 refine tH 3 ?qv3 hS (fun w1 ⟨⟨c0, c1, c2, c3, c4, c5, c6⟩, d0, d1, d2, d3, d4, d5, d6⟩ => ?qy3) ?_
 case qy3 => go_simp; try rfl
 refine tH 7 ?qv7 hS (fun w1 ⟨⟨c0, c1, c2, c3, c4, c5, c6⟩, d0, d1, d2, d3, d4, d5, d6⟩ => ?qy7) ?_
 case qy7 => go_simp; try rfl
 refine tH 10 ?qv10 hS (fun w1 ⟨⟨c0, c1, c2, c3, c4, c5, c6⟩, d0, d1, d2, d3, d4, d5, d6⟩ => ?qy10) ?_
 case qy10 => go_simp; try rfl
 refine tH 13 ?qv13 hS (fun w1 ⟨⟨c0, c1, c2, c3, c4, c5, c6⟩, d0, d1, d2, d3, d4, d5, d6⟩ => ?qy13) ?_
 case qy13 => go_simp; try rfl
 refine tH 15 ?qv15 hS (fun w1 ⟨⟨c0, c1, c2, c3, c4, c5, c6⟩, d0, d1, d2, d3, d4, d5, d6⟩ => ?qy15) ?_
 case qy15 => go_simp; try rfl
 simp only [Act.put, List.setIfInBounds_toArray, List.set_cons_succ, List.set_cons_zero]
 refine oneH 4 (by rfl) (by kernel_rfl) (fun K hK => ?_)
 gi_wp2_with (gi_at_call 26; refine (callsIn_wide.2 (nCompare_any _ _ _ _ _ (A0.out.below hb) (B0.out.below hb) NA.out.owner NB'.out.owner)).mono ?_; rintro e w2 ⟨rfl, b2⟩; rw [HZ.out.1])
 have hS2 := And.intro (hS.1.below b2) (hS.2.below b2)
 have hb2 := below5 hb b2
 clear hS hb b2
 refine hK _ _ (fun _ => hS2) ?_
 clear hK K
 refine oneH 11 (by rfl) (by kernel_rfl) (fun K hK => ?_)
 gi_wp2_with (gi_at_call 27; refine (callsIn_wide.2 (cmpInt_any _ _ _)).mono ?_; rintro e w1 ⟨rfl, rfl⟩; rw [HZ.out.2.1])
 refine hK _ _ (fun _ => hS2) ?_
 clear hK K
 refine oneH 16 (by rfl) (by kernel_rfl) (fun K hK => ?_)
 gi_wp2_with (gi_at_call 28; refine (callsIn_wide.2 (rdCompare_any [.int .i64 a.type, an, am, at', ar] [.int .i64 b.type, bn, bm, bt, br] a b _ (HDA.out.below hb2) (HDB.out.below hb2) NA.out NB'.out)).mono ?_; rintro e w3 ⟨rfl, b3⟩; rw [HZ.out.2.2])
 have hS3 := And.intro (hS2.1.below b3) (hS2.2.below b3)
 have hb3 := below5 hb2 b3
 clear hS2 hb2 b3
 refine hK _ _ (fun _ => hS3) ?_
 clear hK K
 refine oneH 17 (by rfl) (by kernel_rfl) (fun K hK => ?_)
 gi_wp2_with fail
 refine hK _ _ (fun _ => ⟨hS3.1.below ((Below.refl _ _).alloc (Nat.le_refl _) _), hS3.2.below ((Below.refl _ _).alloc (Nat.le_refl _) _)⟩) ?_
 clear hK K
 have hsl := Sl.built w3 ([z1, z2, z3].map fun n : Int => Value.int .i64 n) 3 (by simp; unfold maxLen; omega)
 have hb5 := hb3.alloc hb3.size (.cells ([z1, z2, z3].map fun n : Int => Value.int .i64 n).toArray 3)
 refine oneH 18 (by rfl) (by kernel_rfl) (fun K hK => ?_)
 gi_wp2_with (gi_at_call 25; refine (callsIn_wide.2 (cmpOr_any _ [z1, z2, z3] _ hsl (by simp))).mono ?_; rintro e w6 ⟨rfl, rfl⟩; rw [<- HR.out])
 refine hK _ _ (fun _ => ⟨hS3.1.below ((Below.refl _ _).alloc (Nat.le_refl _) _), hS3.2.below ((Below.refl _ _).alloc (Nat.le_refl _) _)⟩) ?_
 clear hK K
 refine oneH 19 (by rfl) (by kernel_rfl) (fun K hK => ?_)
 gi_wp2_with fail
 refine hK _ _ (fun h => absurd h (by decide)) ?_
 clear hK K
 refine doneH (by kernel_rfl) ?_
 gi_wp2_with fail
 go_ret
 exact ⟨rfl, hb5⟩
set_option maxHeartbeats 1000000 in
theorem recSame_any (va vb : List Value) (a b : Rc.PRec) (w : World) (ha : RecRd va a w) (hb : RecRd vb b w) (na : RB a) (nb : RB b) :
  Calls Tryz.prog 11 #[.agg va.toArray, .agg vb.toArray] w (Gives (.bool (Rc.cmp a b == 0)) w) := by
 have HA := Lib.hid ha
 have HB := Lib.hid hb
 obtain ⟨ao, ad, rfl, _, an, am, at', ar, rfl, _⟩ := ha
 obtain ⟨bo, bd, rfl, _, bn, bm, bt, br, rfl, _⟩ := hb
 have NA := Lib.hid na
 have NB' := Lib.hid nb
 clear na nb
 have hz : ∀ z : Int, (decide (z = 0)) = (z == 0) := fun z => by by_cases h : z = 0 <;> simp [h]
 go_enter Tryz.func11, Tryz.ntmps11
 go_wp2_with fail
 refine (recCompare_any [ao, .int .u32 a.ttl, .int .i64 a.type, an, am, at', ar] [bo, .int .u32 b.ttl, .int .i64 b.type, bn, bm, bt, br] a b _ (HA.out.below (((Below.refl _ _).alloc (Nat.le_refl _) _).alloc (by simp) _)) (HB.out.below (((Below.refl _ _).alloc (Nat.le_refl _) _).alloc (by simp) _)) NA.out NB'.out).mono ?_
 rintro e w1 ⟨rfl, b1⟩
 have hb1 := (((Below.refl w.heap.size w).alloc (Nat.le_refl _) _).alloc (by simp) _).trans (b1.mono (by simp; omega))
 go_wp2_with fail
 go_ret
 exact ⟨by first | rfl | simp [hz], hb1⟩
end Go.Proofs.YtgmbefolgppmdaaGreatDoor
