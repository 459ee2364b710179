/- Rows of data, the document's: alike, in order. -/
import Derived.Test.YtbgbahllhjelgaaGreatDoorKCdA
import Derived.Test.YtbgbahllhjelgaaGreatDoorKGr
import Derived.Test.YtbgbahllhjelgaaGreatDoorKSeY
import Derived.Test.YtbgbahllhjelgaaGreatDoorKZnM
import Derived.Test.YtbgbahllhjelgaaGreatDoorKReg
import Derived.Test.YtbgbahllhjelgaaGreatDoorKZnO
import Derived.Test.YtbgbahllhjelgaaGreatDoorKCs
section
namespace Go.Proofs.YtbgbahllhjelgaaGreatDoor
open Go.RowKit Go.Shelf Go.Sort Go.ChangeShapes Go.WideShapes
set_option maxRecDepth 100000
theorem DatRd.cells5 {vs : List Value} {r : Rc.PRec} {W : World} (h : DatRd vs r W) : ∃ us p1 q1 p2 n2 q2 p3 n3 q3 p4 n4 q4, vs = [.int .i64 r.type, .slice p1 us.length q1, .slice p2 n2 q2, .slice p3 n3 q3, .slice p4 n4 q4] /\ Sl (.slice p1 us.length q1) us W /\ us.length = r.names.length /\ (∀ u ∈ us, ∃ o l c, u = .slice o l c) := by
 obtain ⟨vn, vm, vt, vr, rfl, ⟨us, u1, u2, u3⟩, h2, h3, h4⟩ := h
 obtain ⟨p1, q1, e1, _⟩ := u2.form
 obtain ⟨p2, q2, e2, _⟩ := h2.form
 obtain ⟨p3, q3, e3, _⟩ := h3.form
 obtain ⟨p4, q4, e4, _⟩ := Sl.form h4
 subst e1; subst e2; subst e3; subst e4
 refine ⟨us, p1, q1, p2, _, q2, p3, _, q3, p4, _, q4, rfl, u2, u1, fun u hu => ?_⟩
 obtain ⟨i, hi, rfl⟩ := List.mem_iff_getElem.1 hu
 obtain ⟨o, c, e, _⟩ := (u3 i hi (by omega)).form
 exact ⟨_, _, _, e⟩
theorem DatRd.ok {vs : List Value} {r : Rc.PRec} {W : World} (h : DatRd vs r W) : vs.length = 5 /\ ∀ u ∈ vs, u.oneCell' = true := by
 obtain ⟨us, p1, q1, p2, n2, q2, p3, n3, q3, p4, n4, q4, rfl, _⟩ := h.cells5
 refine ⟨rfl, fun u hu => ?_⟩
 simp only [List.mem_cons, List.not_mem_nil, or_false] at hu
 rcases hu with rfl | rfl | rfl | rfl | rfl <;> rfl
def DtsRd (v : Value) (l : List RP) (W : World) : Prop := GRd 5 v (l.map (·.1)) W /\ ∀ x ∈ l, DatRd x.1 x.2 W
theorem DtsRd.below {v : Value} {l : List RP} {W W' : World} (h : DtsRd v l W) (hb : Below W.heap.size W W') : DtsRd v l W' := ⟨h.1.below hb, fun x hx => (h.2 x hx).below hb⟩
theorem DtsRd.form {v : Value} {l : List RP} {W : World} (h : DtsRd v l W) : ∃ o cap, v = .slice o l.length cap /\ l.length <= cap /\ cap <= 9223372036854775807 := by
 obtain ⟨o, cap, h1, h2, h3⟩ := h.1.form
 rw [List.length_map] at h1 h2
 exact ⟨o, cap, h1, h2, h3⟩
theorem DtsRd.el {o : Option Addr} {n cap : Nat} {l : List RP} {W : World} (h : DtsRd (.slice o n cap) l W) : ∀ W', Below W.heap.size W W' -> ∀ (i : Nat) (hi : i < l.length) (c0 c1 c2 c3 c4 : Value), l[i].1 = [c0, c1, c2, c3, c4] -> ∃ a, o = some a /\
  W'.cell? (a.add (i * 5)) = some c0 /\ W'.cell? ⟨(a.add (i * 5)).block, (a.add (i * 5)).off + 1, none⟩ = some c1 /\ W'.cell? ⟨(a.add (i * 5)).block, (a.add (i * 5)).off + 2, none⟩ = some c2 /\ W'.cell? ⟨(a.add (i * 5)).block, (a.add (i * 5)).off + 3, none⟩ = some c3 /\ W'.cell? ⟨(a.add (i * 5)).block, (a.add (i * 5)).off + 4, none⟩ = some c4 := by
 intro W' hb i hi c0 c1 c2 c3 c4 hx
 obtain ⟨a, ha, h0, h1⟩ := (h.1.below hb).at (by decide) i (by simpa using hi)
 simp only [List.getElem_map, hx] at h0 h1
 exact ⟨a, ha, h0, h1 1 (by decide) (by decide), h1 2 (by decide) (by decide), h1 3 (by decide) (by decide), h1 4 (by decide) (by decide)⟩
def plD (l : List RP) : List Rc.PRec := l.map (·.2)
end Go.Proofs.YtbgbahllhjelgaaGreatDoor
end
section
namespace Go.Proofs.YtbgbahllhjelgaaGreatDoor
open Go.RowKit Go.Shelf Go.Sort
set_option maxRecDepth 100000
def TrE (w : World) (e : Ending) (w' : World) : Prop := e = .returned (.bool true) /\ Below w.heap.size w w'
def OfD (w : World) (cs : List Value) (r : Rc.PRec) (W : World) : Prop :=
 ∃ us ox cx vm vt vr, cs = [.int .i64 r.type, .slice ox us.length cx, vm, vt, vr] /\ Row (fun g => w.heap.size <= g) 22 1 (.slice ox us.length cx) us.length us W /\ us.length = r.names.length /\
  (∀ i (h : i < us.length) (h' : i < r.names.length), Rd us[i] r.names[i] w) /\ Sl vm (numC r.nums) w /\ Rd vt r.texts w /\ BtRd vr r.raw w
theorem OfD.dat {w : World} {cs : List Value} {r : Rc.PRec} {W : World} (h : OfD w cs r W) (hb : Below w.heap.size w W) : DatRd cs r W := by
 obtain ⟨us, ox, cx, vm, vt, vr, rfl, h1, h2, h3, h4, h5, h6⟩ := h
 exact ⟨_, vm, vt, vr, rfl, ⟨us, h2, Row.sl h1, fun i hi hi' => (h3 i hi hi').below hb⟩, h4.below hb, h5.below hb, Sl.below h6 hb⟩
theorem OfD.below {w : World} {cs : List Value} {r : Rc.PRec} {W W' : World} (h : OfD w cs r W) (hb : Below W.heap.size W W') : OfD w cs r W' := by
 obtain ⟨us, ox, cx, vm, vt, vr, rfl, h1, h2⟩ := h
 exact ⟨us, ox, cx, vm, vt, vr, rfl, h1.below hb, h2⟩
theorem OfD.grown {w : World} {cs : List Value} {r : Rc.PRec} {W W' : World} {row : Option Nat} (h : OfD w cs r W) (hg : W.grownBy W' row) (hr : ∀ g, row = some g -> ∃ c t f, W.heap[g]? = some (.cells c t f) /\ t ≠ 22) : OfD w cs r W' := by
 obtain ⟨us, ox, cx, vm, vt, vr, rfl, h1, h2⟩ := h
 refine ⟨us, ox, cx, vm, vt, vr, rfl, h1.kept fun g c t f hv hk => (hg.block g (Array.getElem?_eq_some_iff.1 hk).1 (fun e => ?_)).trans hk, h2⟩
 obtain ⟨c1, f1, h3⟩ := h1.typ hv
 obtain ⟨c2, t2, f2, h4, h5⟩ := hr g e.symm
 rw [h3] at h4; cases h4; exact h5 rfl
theorem OfD.one {w : World} {cs : List Value} {r : Rc.PRec} {W : World} (h : OfD w cs r W) (hb : Below w.heap.size w W) : cs.length = 5 /\ ∀ u ∈ cs, u.oneCell' = true := (h.dat hb).ok
end Go.Proofs.YtbgbahllhjelgaaGreatDoor
end
section
namespace Go.Proofs.YtbgbahllhjelgaaGreatDoor
open Go.RowKit Go.Shelf Go.Sort
set_option maxRecDepth 100000
def OfR7 (w : World) (cs : List Value) (r : Rc.PRec) (W : World) : Prop := ∃ vo ds, cs = vo :: .int .u32 (r.ttl : Int) :: ds /\ Rd vo r.owner w /\ OfD w ds r W
theorem OfR7.rec {w : World} {cs : List Value} {r : Rc.PRec} {W : World} (h : OfR7 w cs r W) (hb : Below w.heap.size w W) : RecRd cs r W := by
 obtain ⟨vo, ds, h1, h2, h3⟩ := h
 exact ⟨vo, ds, h1, h2.below hb, h3.dat hb⟩
theorem OfR7.below {w : World} {cs : List Value} {r : Rc.PRec} {W W' : World} (h : OfR7 w cs r W) (hb : Below W.heap.size W W') : OfR7 w cs r W' := by
 obtain ⟨vo, ds, h1, h2, h3⟩ := h
 exact ⟨vo, ds, h1, h2, h3.below hb⟩
theorem OfR7.grown {w : World} {cs : List Value} {r : Rc.PRec} {W W' : World} {row : Option Nat} (h : OfR7 w cs r W) (hg : W.grownBy W' row) (hr : ∀ g, row = some g -> ∃ c t f, W.heap[g]? = some (.cells c t f) /\ t ≠ 22) : OfR7 w cs r W' := by
 obtain ⟨vo, ds, h1, h2, h3⟩ := h
 exact ⟨vo, ds, h1, h2, h3.grown hg hr⟩
set_option maxHeartbeats 2000000 in
theorem of5T_any (vs : List Value) (r : Rc.PRec) (w w0 : World) (h : RecRd vs r w) (hb0 : Below w.heap.size w w0) (hn : r.names.length <= 1000) :
  Calls Tryz.prog 11 #[.agg vs.toArray] w0 fun e w' => ∃ vs', e = .returned (.agg vs'.toArray) /\ OfR7 w vs' r w' /\ Below w0.heap.size w0 w' := by
 obtain ⟨p0, n0, q0, p1, n1, q1, p2, n2, q2, p3, n3, q3, p4, n4, q4, rfl, hro, hrd⟩ := h.cells
 obtain ⟨W2, hW2⟩ : ∃ W2, (w0.alloc (.cells #[.slice p0 n0 q0, .int .u32 (r.ttl : Int), .int .i64 r.type, .slice p1 n1 q1, .slice p2 n2 q2, .slice p3 n3 q3, .slice p4 n4 q4] 31)).alloc (.cells #[.slice none 0 0, .int .u32 0, .int .i64 0, .slice none 0 0, .slice none 0 0, .slice none 0 0, .slice none 0 0] 40) = W2 := ⟨_, rfl⟩
 have hb2 : Below w0.heap.size w0 W2 := by subst hW2; exact ((Below.refl _ _).alloc (Nat.le_refl _) _).alloc (by simp) _
 have k0 : Blk w0.heap.size #[.slice p0 n0 q0, .int .u32 (r.ttl : Int), .int .i64 r.type, .slice p1 n1 q1, .slice p2 n2 q2, .slice p3 n3 q3, .slice p4 n4 q4] 31 W2 := by subst hW2; exact (Blk.new w0 _ _).alloc _
 have k1 : Blk (w0.heap.size + 1) #[.slice none 0 0, .int .u32 0, .int .i64 0, .slice none 0 0, .slice none 0 0, .slice none 0 0, .slice none 0 0] 40 W2 := by
  subst hW2
  have := Blk.new (w0.alloc (.cells #[.slice p0 n0 q0, .int .u32 (r.ttl : Int), .int .i64 r.type, .slice p1 n1 q1, .slice p2 n2 q2, .slice p3 n3 q3, .slice p4 n4 q4] 31)) #[.slice none 0 0, .int .u32 0, .int .i64 0, .slice none 0 0, .slice none 0 0, .slice none 0 0, .slice none 0 0] 40
  rwa [World.size_alloc] at this
 have HB := Lib.hid hb2
 have K1 := Lib.hid k1
 have HRO := Lib.hid hro
 have HRD := Lib.hid hrd
 obtain ⟨vn', vm', vt', vr', he, ⟨us, hul, hs1, hs2⟩, h2', h3', h4'⟩ := hrd
 cases he
 have HC := Lib.hid (fun w' (hw : Below w0.heap.size w0 w') => of4_any (.slice p1 n1 q1) (.slice p2 n2 q2) (.slice p3 n3 q3) (.slice p4 n4 q4) us r.type w' (hs1.below (below5 hb0 hw)) (fun u hu => by
  obtain ⟨i, hi, rfl⟩ := List.mem_iff_getElem.1 hu
  obtain ⟨o, c, h, _⟩ := (hs2 i hi (by omega)).form
  exact ⟨_, _, _, h⟩) ⟨_, _, _, rfl⟩ ⟨_, _, _, rfl⟩ ⟨_, _, _, rfl⟩ (by omega))
 have HU := Lib.hid hs2
 have HDR := Lib.hid (And.intro h2' (And.intro h3' h4'))
 have hSr := Sv.of k0
 have K0 := Lib.hid k0
 obtain ⟨m1, hm1⟩ : ∃ m1, us.length = m1 := ⟨_, rfl⟩
 rw [hm1] at HC
 have HUL := Lib.hid (And.intro hul hm1)
 clear hro h k0 k1 hb2 hs1 hs2 h2' h3' h4' hul hm1 HRD
 have HB0W := Lib.hid hb0
 clear hb0
 refine (callsIn_wide (n := 0)).1 ?_
 refine callsIn_of_wp Tryz.func11 rfl trivial ?_ rfl
 simp only [Tryz.ntmps11, List.size_toArray, List.length_cons, List.length_nil, Nat.reduceAdd, Nat.reduceSub, Array.replicate_succ, Array.replicate_zero, List.push_toArray, List.append_toArray, List.nil_append, List.cons_append]
 gi_wp2_with fail
 refine drawnH [0, 1, 2, 3, 4, 5, 6, 7] (Sv w0.heap.size (.slice p0 n0 q0) (.int .u32 (r.ttl : Int)) (.int .i64 r.type) (.slice p1 n1 q1) (.slice p2 n2 q2) (.slice p3 n3 q3) (.slice p4 n4 q4)) 9 rfl (by kernel_rfl) ?_
 intro w3 hw3
 have hS : Sv w0.heap.size (.slice p0 n0 q0) (.int .u32 (r.ttl : Int)) (.int .i64 r.type) (.slice p1 n1 q1) (.slice p2 n2 q2) (.slice p3 n3 q3) (.slice p4 n4 q4) w3 := by subst hw3; exact hSr
 have hb3 : Below W2.heap.size W2 w3 := by subst hw3; exact (Below.refl _ _).drew
 clear hw3 hSr hW2
 refine tH 0 ?qv0 hS (fun w1 ⟨g0, g1, g2, g3, g4, g5, g6⟩ => ?qy0) ?_
 case qy0 => go_simp; try rfl
 refine tH 2 ?qv2 hS (fun w1 ⟨g0, g1, g2, g3, g4, g5, g6⟩ => ?qy2) ?_
 case qy2 => go_simp; try rfl
 refine tH 4 ?qv4 hS (fun w1 ⟨g0, g1, g2, g3, g4, g5, g6⟩ => ?qy4) ?_
 case qy4 => go_simp; try rfl
 refine tH 1 ?qv1 hS (fun w1 ⟨g0, g1, g2, g3, g4, g5, g6⟩ => ?qy1) ?_
 case qy1 => go_simp; try rfl
 refine tH 3 ?qv3 hS (fun w1 ⟨g0, g1, g2, g3, g4, g5, g6⟩ => ?qy3) ?_
 case qy3 => go_simp; try rfl
 refine tH 5 ?qv5 hS (fun w1 ⟨g0, g1, g2, g3, g4, g5, g6⟩ => ?qy5) ?_
 case qy5 => go_simp; try rfl
 simp only [Act.put, List.setIfInBounds_toArray, List.set_cons_succ, List.set_cons_zero]
 have hbs3 := hb3.size
 have HC3 := Lib.hid (HC.out _ (below5 HB.out hb3))
 refine oneH 6 (by rfl) (by kernel_rfl) (fun K hK => ?_)
 gi_wp2_with (gi_at_call 28; refine (callsIn_wide.2 HC3.out).mono ?_; rintro e w4 ⟨r1, t1, rfl, hrow4, b4⟩)
 have hb4 := below5 hb3 b4
 have hS4 : Sv w0.heap.size (.slice p0 n0 q0) (.int .u32 (r.ttl : Int)) (.int .i64 r.type) (.slice p1 n1 q1) (.slice p2 n2 q2) (.slice p3 n3 q3) (.slice p4 n4 q4) w4 := Sv.of (K0.out.below hb4)
 refine hK _ _ (fun _ => hS4) ?_
 clear hK K hS hb3 b4
 have hS := hS4
 clear hS4
 refine tH 7 ?qv7 hS (fun w1 ⟨g0, g1, g2, g3, g4, g5, g6⟩ => ?qy7) ?_
 case qy7 => go_simp; try rfl
 simp only [Act.put, List.setIfInBounds_toArray, List.set_cons_succ, List.set_cons_zero]
 have k1 := K1.out.below hb4
 have a0 : w4.cell? ⟨w0.heap.size + 1, 0, none⟩ = some _ := k1.cell 0
 have a1 : w4.cell? ⟨w0.heap.size + 1, 1, none⟩ = some _ := k1.cell 1
 have a2 : w4.cell? ⟨w0.heap.size + 1, 2, none⟩ = some _ := k1.cell 2
 have a3 : w4.cell? ⟨w0.heap.size + 1, 3, none⟩ = some _ := k1.cell 3
 have a4 : w4.cell? ⟨w0.heap.size + 1, 4, none⟩ = some _ := k1.cell 4
 have a5 : w4.cell? ⟨w0.heap.size + 1, 5, none⟩ = some _ := k1.cell 5
 have a6 : w4.cell? ⟨w0.heap.size + 1, 6, none⟩ = some _ := k1.cell 6
 have f0 := k1.frozen 0
 have f1 := k1.frozen 1
 have f2 := k1.frozen 2
 have f3 := k1.frozen 3
 have f4 := k1.frozen 4
 have f5 := k1.frozen 5
 have f6 := k1.frozen 6
 obtain ⟨We, hWe⟩ : ∃ We, ((((((w4.setCell ⟨w0.heap.size + 1, 0, none⟩ (.slice p0 n0 q0)).setCell ⟨w0.heap.size + 1, 1, none⟩ (.int .u32 (r.ttl : Int))).setCell ⟨w0.heap.size + 1, 2, none⟩ (.int .i64 r.type)).setCell ⟨w0.heap.size + 1, 3, none⟩ (.slice r1 m1 t1)).setCell ⟨w0.heap.size + 1, 4, none⟩ (.slice p2 n2 q2)).setCell ⟨w0.heap.size + 1, 5, none⟩ (.slice p3 n3 q3)).setCell ⟨w0.heap.size + 1, 6, none⟩ (.slice p4 n4 q4) = We := ⟨_, rfl⟩
 have ke : Blk (w0.heap.size + 1) #[.slice p0 n0 q0, .int .u32 (r.ttl : Int), .int .i64 r.type, .slice r1 m1 t1, .slice p2 n2 q2, .slice p3 n3 q3, .slice p4 n4 q4] 40 We := by
  subst hWe; exact ((((((k1.setAt 0 _).setAt 1 _).setAt 2 _).setAt 3 _).setAt 4 _).setAt 5 _).setAt 6 _
 have hbe : Below w0.heap.size w0 We := by
  subst hWe
  exact (((((((below5 HB.out hb4).setCell (p := ⟨w0.heap.size + 1, 0, none⟩) (by simp) _).setCell (p := ⟨w0.heap.size + 1, 1, none⟩) (by simp) _).setCell (p := ⟨w0.heap.size + 1, 2, none⟩) (by simp) _).setCell (p := ⟨w0.heap.size + 1, 3, none⟩) (by simp) _).setCell (p := ⟨w0.heap.size + 1, 4, none⟩) (by simp) _).setCell (p := ⟨w0.heap.size + 1, 5, none⟩) (by simp) _).setCell (p := ⟨w0.heap.size + 1, 6, none⟩) (by simp) _
 have hrowe : Row (fun g => w3.heap.size + 3 <= g) 22 1 (.slice r1 m1 t1) m1 us We := by
  have hlt : w0.heap.size + 1 < w3.heap.size := by
   have h1 := K1.out.lt; have h2 := hbs3; omega
  subst hWe
  exact ((((((hrow4.setOther (fun h => by omega) _).setOther (fun h => by omega) _).setOther (fun h => by omega) _).setOther (fun h => by omega) _).setOther (fun h => by omega) _).setOther (fun h => by omega) _).setOther (fun h => by omega) _
 have KE := Lib.hid ke
 have HBE := Lib.hid hbe
 have HRE := Lib.hid hrowe
 clear ke hbe hrowe hrow4 k1
 refine oneH 8 (by rfl) (by kernel_rfl) (fun K hK => ?_)
 gi_wp2_with fail
 refine hK _ _ (fun h => absurd h (by decide)) ?_
 clear hK K hS
 refine doneH (by kernel_rfl) ?_
 have e0 : We.cell? ⟨w0.heap.size + 1, 0, none⟩ = some _ := KE.out.cell 0
 have e1 : We.cell? ⟨w0.heap.size + 1, 1, none⟩ = some _ := KE.out.cell 1
 have e2 : We.cell? ⟨w0.heap.size + 1, 2, none⟩ = some _ := KE.out.cell 2
 have e3 : We.cell? ⟨w0.heap.size + 1, 3, none⟩ = some _ := KE.out.cell 3
 have e4 : We.cell? ⟨w0.heap.size + 1, 4, none⟩ = some _ := KE.out.cell 4
 have e5 : We.cell? ⟨w0.heap.size + 1, 5, none⟩ = some _ := KE.out.cell 5
 have e6 : We.cell? ⟨w0.heap.size + 1, 6, none⟩ = some _ := KE.out.cell 6
 gi_wp2_with fail
 refine bodyPost_ret (v := .agg #[.slice p0 n0 q0, .int .u32 (r.ttl : Int), .int .i64 r.type, .slice r1 m1 t1, .slice p2 n2 q2, .slice p3 n3 q3, .slice p4 n4 q4]) (by simp at e0 e1 e2 e3 e4 e5 e6; simp [results, Tryz.results11, go_sem, e0, e1, e2, e3, e4, e5, e6]) rfl ?_
 have hbE := HBE.out
 obtain ⟨hul, hm1⟩ := HUL.out
 obtain ⟨h2, h3, h4⟩ := HDR.out
 have hrow := HRE.out
 have hw3 := HB0W.out.size
 have hsz : w0.heap.size <= w3.heap.size := by have := HB.out.size; omega
 rw [<- hm1] at hrow ⊢
 exact ⟨[.slice p0 n0 q0, .int .u32 (r.ttl : Int), .int .i64 r.type, .slice r1 us.length t1, .slice p2 n2 q2, .slice p3 n3 q3, .slice p4 n4 q4], rfl, ⟨_, _, rfl, HRO.out, us, r1, t1, _, _, _, rfl, hrow.mono (fun g hg => by omega), hul, HU.out, h2, h3, h4⟩, hbE⟩
theorem info_rrec : (Tryz.prog.info? 40).map (fun i => (i.zero, i.size, i.bytes)) = some (some (.agg #[.slice none 0 0, .int .u32 0, .int .i64 0, .slice none 0 0, .slice none 0 0, .slice none 0 0, .slice none 0 0]), 7, 136) := by kernel_rfl
theorem recsRd_of {v : Value} {l : List RP} {W : World} (h : GRd 7 v (l.map (·.1)) W) (hr : ∀ x ∈ l, RecRd x.1 x.2 W) : RecsRd v l W := by
 obtain ⟨o, cap, h1, h2, h3, h4, h5, h6⟩ := h
 rw [List.length_map] at h1 h2
 refine ⟨hr, o, cap, h1, h2, h3, h4, fun j hj => ?_⟩
 have h7 : ∀ x ∈ l, x.1.length = 7 := fun x hx => (hr x hx).len
 have hj' := hj
 rw [encP_len h7] at hj'
 have q1 : j / 7 < l.length := by omega
 obtain ⟨a, ha, e⟩ := h6 (j / 7) (by simpa using q1) (j % 7) (Nat.mod_lt _ (by omega))
 have h8 := encP_get h7 (j / 7) (j % 7) q1 (Nat.mod_lt _ (by omega))
 rw [show j / 7 * 7 + j % 7 = j by omega] at e h8
 rw [List.getElem_map, <- h8, List.getElem?_eq_getElem hj] at e
 exact ⟨a, ha, e⟩
def OfAllR {w : World} (l : List (El w)) (w0 : World) (e : Ending) (w' : World) : Prop := ∃ (v' : Value) (l' : List (El w')), e = .returned v' /\ RecsRd v' (l'.map (·.1)) w' /\ plE l' = plE l /\ Below w0.heap.size w0 w'
set_option maxHeartbeats 4000000 in
theorem ofAll_any {w w0 : World} (v : Value) (l : List (El w)) (hb0 : Below w.heap.size w w0) (hv : RecsRd v (l.map (·.1)) w0) (na : l.length <= 1000) :
  Calls Tryz.prog 18 #[v] w0 (OfAllR l w0) := by
 obtain ⟨ov, cv, rfl⟩ : ∃ o cap, v = .slice o l.length cap := by obtain ⟨_, o, cap, h, _⟩ := hv; exact ⟨o, cap, by rw [h, List.length_map]⟩
 have HV := Lib.hid hv.el
 have HB0 := Lib.hid hb0
 have lz : (l.length : Int) <= 1000 := by omega
 clear hv hb0
 refine (callsIn_wide (n := 0)).1 ?_
 refine callsIn_of_wp Tryz.func18 rfl trivial ?_ rfl
 simp only [Tryz.ntmps18, List.size_toArray, List.length_cons, List.length_nil, Nat.reduceAdd, Nat.reduceSub, Array.replicate_succ, Array.replicate_zero, List.push_toArray, List.append_toArray, List.nil_append, List.cons_append]
 gi_wp2_with fail
 gi_loopw [3, 4] (fun vx vi W => ∃ (i : Nat) (ys : List RP), i <= l.length /\ vi = .int .i64 i /\ Hid (ys.length = i /\ plD ys = plE (l.take i) /\ ∀ y ∈ ys, OfR7 w y.1 y.2 W) /\ Below w0.heap.size w0 W /\ Row (fun g => w0.heap.size <= g) 40 7 vx ys.length (ys.map (·.1)).flatten W) (fun _ vi _ => l.length - (intOf vi).toNat)
 case atStart => exact ⟨0, [], Nat.zero_le _, rfl, ⟨rfl, rfl, by simp⟩, Below.refl _ _, Row.nil _ _ _ _⟩
 case round =>
  obtain ⟨i, ys, hi, rfl, HI, hb, hrow⟩ := hrel
  by_cases hlt : i < l.length
  ·have hlz : (i : Int) < (l.length : Int) := by omega
   obtain ⟨x, hx⟩ : ∃ x, l[i] = x := ⟨_, rfl⟩
   obtain ⟨p0, n0, q0, p1, n1, q1, p2, n2, q2, p3, n3, q3, p4, n4, q4, ex⟩ := x.cells
   obtain ⟨ga, rfl, e0, e1, e2, e3, e4, e5, e6⟩ := HV.out _ hb i hlt _ _ _ _ _ _ _ (by rw [hx]; exact ex)
   obtain ⟨ea, hea⟩ : ∃ q, ga.add (i * 7) = q := ⟨_, rfl⟩
   rw [hea] at e0 e1 e2 e3 e4 e5 e6
   have htk : l.take (i + 1) = l.take i ++ [x] := by rw [List.take_succ_eq_append_getElem hlt, hx]
   have hxr : RecRd [.slice p0 n0 q0, .int .u32 (x.1.2.ttl : Int), .int .i64 x.1.2.type, .slice p1 n1 q1, .slice p2 n2 q2, .slice p3 n3 q3, .slice p4 n4 q4] x.1.2 w := by have h := x.2.1; rw [show x.1.1 = _ from ex] at h; exact h
   have HOF := Lib.hid (of5T_any _ x.1.2 w wr hxr (below5 HB0.out hb) x.2.2.names.1)
   have HTK := Lib.hid htk
   have HB := Lib.hid hb
   have HR := Lib.hid hrow
   clear hx ex htk hxr hb hrow
   gi_wp2_with fail
   (with_reducible refine (callsIn_wide.2 HOF.out).mono ?_)
   rintro e w4 ⟨cs, rfl, hof, b4⟩
   have hbw := below5 HB0.out (below5 HB.out b4)
   obtain ⟨d0, k0, t0, d1, k1, t1, d2, k2, t2, d3, k3, t3, d4, k4, t4, e7, _⟩ := (hof.rec hbw).cells
   subst e7
   have HB4 := Lib.hid (below5 HB.out b4)
   have HR4 := Lib.hid (HR.out.below b4)
   have HI4 : Hid (∀ y ∈ ys, OfR7 w y.1 y.2 w4) := fun y hy => (HI.out.2.2 y hy).below b4
   have HOD := Lib.hid hof
   have HG4 := Lib.hid (GRd.new [.slice d0 k0 t0, .int .u32 (x.1.2.ttl : Int), .int .i64 x.1.2.type, .slice d1 k1 t1, .slice d2 k2 t2, .slice d3 k3 t3, .slice d4 k4 t4] rfl (by simp [Value.oneCell']) w4 40)
   have HR5 := Lib.hid (HR4.out.alloc (.cells #[.slice d0 k0 t0, .int .u32 (x.1.2.ttl : Int), .int .i64 x.1.2.type, .slice d1 k1 t1, .slice d2 k2 t2, .slice d3 k3 t3, .slice d4 k4 t4] 40))
   have HBA : Hid (Below w4.heap.size w4 (w4.alloc (.cells #[.slice d0 k0 t0, .int .u32 (x.1.2.ttl : Int), .int .i64 x.1.2.type, .slice d1 k1 t1, .slice d2 k2 t2, .slice d3 k3 t3, .slice d4 k4 t4] 40))) := (Below.refl _ _).alloc (Nat.le_refl _) _
   have HRZ : Hid (w0.heap.size <= w4.heap.size + 1) := by have := HB4.out.size; show _ <= _; omega
   have HYN : Hid (ys.length + 1 <= 100000) := by have := HI.out.1; show _ <= _; omega
   clear e0 e1 e2 e3 e4 e5 e6 hof b4 HOF hea hbw
   gi_wp2_with (gi_at_builtin; refine append_g (fun g => w0.heap.size <= g) 40 _ 7 136 info_rrec rfl (by decide) rfl _ _ _ Tryz.underlying49 rfl _ ys.length (ys.map (·.1)) (by rfl) HR5.out _ [[.slice d0 k0 t0, .int .u32 (x.1.2.ttl : Int), .int .i64 x.1.2.type, .slice d1 k1 t1, .slice d2 k2 t2, .slice d3 k3 t3, .slice d4 k4 t4]] (by rfl) HG4.out HYN.out (by omega) (by rw [World.size_alloc]; exact HRZ.out) ?_; intro v10 w10 hrow10 hgr10; have HR10 := Lib.hid hrow10; have HGR10 := Lib.hid hgr10; clear hrow10 hgr10)
   gi_wp2_with fail
   have hgt : ∀ g, Value.ownBlock u3 = some g -> ∃ c t f, (w4.alloc (.cells #[.slice d0 k0 t0, .int .u32 (x.1.2.ttl : Int), .int .i64 x.1.2.type, .slice d1 k1 t1, .slice d2 k2 t2, .slice d3 k3 t3, .slice d4 k4 t4] 40)).heap[g]? = some (.cells c t f) /\ t ≠ 22 := fun g hg => by
    obtain ⟨c, f, h⟩ := HR5.out.typ hg
    exact ⟨c, _, f, h, by decide⟩
   refine ⟨⟨i + 1, ys ++ [([.slice d0 k0 t0, .int .u32 (x.1.2.ttl : Int), .int .i64 x.1.2.type, .slice d1 k1 t1, .slice d2 k2 t2, .slice d3 k3 t3, .slice d4 k4 t4], x.1.2)], hlt, by go_num, ⟨by simp [HI.out.1], ?_, fun y hy => ?_⟩, ?_, ?_⟩, by simp [intOf]; omega⟩
   ·rw [HTK.out, plE_snoc, <- HI.out.2.1]
    simp [plD]
   ·rw [List.mem_append, List.mem_singleton] at hy
    rcases hy with hy | rfl
    ·exact ((HI4.out y hy).below HBA.out).grown HGR10.out hgt
    ·exact (HOD.out.below HBA.out).grown HGR10.out hgt
   ·exact (below5 HB4.out HBA.out).grown HGR10.out (below5 HB4.out HBA.out).size (fun g hg => HR5.out.2 g hg)
   ·have := HR10.out
    rw [List.length_append, List.map_append]
    exact this
  ·have hlz : ¬ ((i : Int) < (l.length : Int)) := by omega
   obtain rfl : i = l.length := by omega
   have HB := Lib.hid hb
   have HR := Lib.hid hrow
   clear hb hrow
   gi_wp2_with fail
   go_ret
   have hbw := below5 HB0.out HB.out
   obtain ⟨h1, h2, h3⟩ := HI.out
   rw [List.take_length] at h2
   have hr7 : ∀ x ∈ ys, RecRd x.1 x.2 wr := fun x hx => (h3 x hx).rec hbw
   have hrb : ∀ x ∈ ys, RB x.2 := fun x hx => by
    have : x.2 ∈ plE l := by rw [<- h2]; exact List.mem_map.2 ⟨x, hx, rfl⟩
    obtain ⟨z, _, e⟩ := List.mem_map.1 this
    rw [<- e]; exact z.2.2
   obtain ⟨L, hL⟩ := els (W := wr) (l := ys) (fun x hx => ⟨hr7 x hx, hrb x hx⟩)
   refine ⟨_, L, rfl, ?_, ?_, HB.out⟩
   ·rw [hL]
    refine recsRd_of (Row.grd (by rw [List.length_map]; exact HR.out) (fun c hc => ?_)) hr7
    obtain ⟨x, hx, rfl⟩ := List.mem_map.1 hc
    exact ⟨(hr7 x hx).len, (hr7 x hx).one⟩
   ·rw [<- h2]
    have : plE L = plD (L.map (·.1)) := by simp [plE, plD]
    rw [this, hL]
theorem Rc.cmp_two (a b : Rc.PRec) : Rc.cmp a b = Rc.orI (Nm.cmp a.owner b.owner) (Rc.cmpD a b) := by
 have h : Rc.cmpD a b = Rc.orI (Nm.sgn a.type b.type) (Rc.cmpD a b) := by
  unfold Rc.cmpD Rc.orI
  by_cases h : Nm.sgn a.type b.type = 0 <;> simp [h]
 unfold Rc.cmp
 rw [<- h]
set_option maxHeartbeats 2000000 in
theorem refCompareRec_any (va vb : List Value) (a b : Rc.PRec) (w : World) (ha : RecRd va a w) (hb : RecRd vb b w) (na : RB a) (nb : RB b) :
  Calls Tryz.prog 12 #[.agg va.toArray, .agg vb.toArray] w (Gives (.int .i64 (Rc.cmp a b)) w) := by
 obtain ⟨p0, n0, q0, p1, n1, q1, p2, n2, q2, p3, n3, q3, p4, n4, q4, rfl, ho, hd⟩ := ha.cells
 obtain ⟨r0, k0, t0, r1, k1, t1, r2, k2, t2, r3, k3, t3, r4, k4, t4, rfl, ho', hd'⟩ := hb.cells
 obtain ⟨z, hz⟩ : ∃ z, Nm.cmp a.owner b.owner = z := ⟨_, rfl⟩
 have hct := Rc.cmp_two a b
 rw [hz] at hct
 have HCT := Lib.hid hct
 have HZ := Lib.hid hz
 have HO := Lib.hid ho
 have HO' := Lib.hid ho'
 have HD := Lib.hid hd
 have HD' := Lib.hid hd'
 obtain ⟨W2, hW2⟩ : ∃ W, (w.alloc (.cells #[.slice p0 n0 q0, .int .u32 (a.ttl : Int), .int .i64 a.type, .slice p1 n1 q1, .slice p2 n2 q2, .slice p3 n3 q3, .slice p4 n4 q4] 40)).alloc (.cells #[.slice r0 k0 t0, .int .u32 (b.ttl : Int), .int .i64 b.type, .slice r1 k1 t1, .slice r2 k2 t2, .slice r3 k3 t3, .slice r4 k4 t4] 40) = W := ⟨_, rfl⟩
 have hb2 : Below w.heap.size w W2 := by rw [<- hW2]; exact ((Below.refl _ _).alloc (Nat.le_refl _) _).alloc (by simp) _
 have kk2 : Blk w.heap.size #[.slice p0 n0 q0, .int .u32 (a.ttl : Int), .int .i64 a.type, .slice p1 n1 q1, .slice p2 n2 q2, .slice p3 n3 q3, .slice p4 n4 q4] 40 W2 := by rw [<- hW2]; exact (Blk.new w _ _).alloc _
 have kk3 : Blk (w.heap.size + 1) #[.slice r0 k0 t0, .int .u32 (b.ttl : Int), .int .i64 b.type, .slice r1 k1 t1, .slice r2 k2 t2, .slice r3 k3 t3, .slice r4 k4 t4] 40 W2 := by
  rw [<- hW2]
  have := Blk.new (w.alloc (.cells #[.slice p0 n0 q0, .int .u32 (a.ttl : Int), .int .i64 a.type, .slice p1 n1 q1, .slice p2 n2 q2, .slice p3 n3 q3, .slice p4 n4 q4] 40)) #[.slice r0 k0 t0, .int .u32 (b.ttl : Int), .int .i64 b.type, .slice r1 k1 t1, .slice r2 k2 t2, .slice r3 k3 t3, .slice r4 k4 t4] 40
  rwa [World.size_alloc] at this
 have HB2 := Lib.hid hb2
 have K2 := Lib.hid kk2
 have K3 := Lib.hid kk3
 have HW2 := Lib.hid hW2
 have HC1 := Lib.hid (refCompareN_any _ _ a.owner b.owner W2 (ho.below hb2) (ho'.below hb2) na.owner nb.owner)
 rw [hz] at HC1
 have HC2 := Lib.hid (fun W' (hW : Below W2.heap.size W2 W') => refCompareData_any _ _ a b W' (hd.below (below5 hb2 hW)) (hd'.below (below5 hb2 hW)) na nb)
 clear ha hb ho ho' hd hd' hz hct hW2 hb2 kk2 kk3
 refine (callsIn_wide (n := 0)).1 ?_
 refine callsIn_of_wp Tryz.func12 rfl trivial ?_ rfl
 simp only [Tryz.ntmps12, List.size_toArray, List.length_cons, List.length_nil, Nat.reduceAdd, Nat.reduceSub, Array.replicate_succ, Array.replicate_zero, List.push_toArray, List.append_toArray, List.nil_append, List.cons_append]
 gi_wp2_with fail
 rw [HW2.out]
 (with_reducible refine (callsIn_wide.2 HC1.out).mono ?_)
 rintro e w3 ⟨rfl, b3⟩
 have HB3 := Lib.hid b3
 have e2 : w3.cell? ⟨w.heap.size, 2, none⟩ = some _ := (K2.out.below b3).cell 2
 have e3 : w3.cell? ⟨w.heap.size, 3, none⟩ = some _ := (K2.out.below b3).cell 3
 have e4 : w3.cell? ⟨w.heap.size, 4, none⟩ = some _ := (K2.out.below b3).cell 4
 have e5 : w3.cell? ⟨w.heap.size, 5, none⟩ = some _ := (K2.out.below b3).cell 5
 have e6 : w3.cell? ⟨w.heap.size, 6, none⟩ = some _ := (K2.out.below b3).cell 6
 have f2 : w3.cell? ⟨w.heap.size + 1, 2, none⟩ = some _ := (K3.out.below b3).cell 2
 have f3 : w3.cell? ⟨w.heap.size + 1, 3, none⟩ = some _ := (K3.out.below b3).cell 3
 have f4 : w3.cell? ⟨w.heap.size + 1, 4, none⟩ = some _ := (K3.out.below b3).cell 4
 have f5 : w3.cell? ⟨w.heap.size + 1, 5, none⟩ = some _ := (K3.out.below b3).cell 5
 have f6 : w3.cell? ⟨w.heap.size + 1, 6, none⟩ = some _ := (K3.out.below b3).cell 6
 clear b3
 by_cases h0 : z = 0
 ·subst h0
  gi_wp2_with fail
  (with_reducible refine (callsIn_wide.2 (HC2.out w3 HB3.out)).mono ?_)
  rintro e w4 ⟨rfl, b4⟩
  have HB4 := Lib.hid (below5 HB2.out (below5 HB3.out b4))
  clear b4
  gi_wp2_with fail
  go_ret
  exact ⟨by rw [HCT.out, Rc.orI_right]; rfl, HB4.out⟩
 ·have h1 : (z != 0) = true := by simp [h0]
  gi_wp2_with fail
  go_ret
  exact ⟨by rw [HCT.out, Rc.orI_left h0]; rfl, below5 HB2.out HB3.out⟩
set_option maxHeartbeats 1000000 in
theorem refSameRec_any (va vb : List Value) (a b : Rc.PRec) (w : World) (ha : RecRd va a w) (hb : RecRd vb b w) (na : RB a) (nb : RB b) :
  Calls Tryz.prog 50 #[.agg va.toArray, .agg vb.toArray] w (Gives (.bool (Rc.cmp a b == 0)) w) := by
 have HA := Lib.hid ha
 have HB := Lib.hid hb
 obtain ⟨p0, n0, q0, p1, n1, q1, p2, n2, q2, p3, n3, q3, p4, n4, q4, rfl, _⟩ := ha.cells
 obtain ⟨r0, k0, t0, r1, k1, t1, r2, k2, t2, r3, k3, t3, r4, k4, t4, rfl, _⟩ := hb.cells
 have NA := Lib.hid na
 have NB' := Lib.hid nb
 clear na nb ha hb
 have hz : ∀ z : Int, (decide (z = 0)) = (z == 0) := fun z => by by_cases h : z = 0 <;> simp [h]
 go_enter Tryz.func50, Tryz.ntmps50
 go_wp2_with fail
 refine (refCompareRec_any [.slice p0 n0 q0, .int .u32 (a.ttl : Int), .int .i64 a.type, .slice p1 n1 q1, .slice p2 n2 q2, .slice p3 n3 q3, .slice p4 n4 q4] [.slice r0 k0 t0, .int .u32 (b.ttl : Int), .int .i64 b.type, .slice r1 k1 t1, .slice r2 k2 t2, .slice r3 k3 t3, .slice r4 k4 t4] a b _ (HA.out.below (((Below.refl _ _).alloc (Nat.le_refl _) _).alloc (by simp) _)) (HB.out.below (((Below.refl _ _).alloc (Nat.le_refl _) _).alloc (by simp) _)) NA.out NB'.out).mono ?_
 rintro e w1 ⟨rfl, b1⟩
 have hb1 := (((Below.refl w.heap.size w).alloc (Nat.le_refl _) _).alloc (by simp) _).trans (b1.mono (by simp; omega))
 go_wp2_with fail
 go_ret
 exact ⟨by first | rfl | simp [hz], hb1⟩
end Go.Proofs.YtbgbahllhjelgaaGreatDoor
end
section
namespace Go.Proofs.YtbgbahllhjelgaaGreatDoor
open Go.RowKit Go.Shelf Go.Sort
set_option maxRecDepth 100000
theorem finQ {G : Prop} {A B C D E : Type} (F : A -> B -> C -> D -> E -> Prop) (Q : A -> B -> C -> D -> E -> Prop) (h1 : (∀ a b c d e, F a b c d e -> Q a b c d e) -> G) (h2 : ∀ a b c d e, F a b c d e -> Q a b c d e) : G := h1 h2
namespace Rc
theorem put_cons (x y : PRec) (L : List PRec) : put x (y :: L) = if cmp y x < 0 then y :: put x L else if cmp y x = 0 then (if x.ttl < y.ttl then { y with ttl := x.ttl } else y) :: L else x :: y :: L := rfl
theorem put_split (x : PRec) : ∀ (L : List PRec) (k : Nat), k <= L.length -> (∀ j (h : j < L.length), j < k -> cmp L[j] x < 0) -> put x L = L.take k ++ put x (L.drop k)
 | _, 0, _, _ => rfl
 | [], k + 1, h, _ => by simp at h
 | y :: L, k + 1, h, hc => by
  have h0 : cmp y x < 0 := hc 0 (by simp) (by omega)
  have ih := put_split x L k (by simpa using h) (fun j hj hjk => hc (j + 1) (by simpa using hj) (by omega))
  rw [put_cons, if_pos h0, ih]; rfl
end Rc
theorem flat_set {w : World} (os : List (El w)) (k : Nat) (hk : k < os.length) (y : El w) (c : Nat) (u : Value) (hc : c < 7) (he : encE y = (encE os[k]).set c u) : (os.flatMap encE).set (k * 7 + c) u = (os.set k y).flatMap encE := by
 refine List.ext_getElem? fun j => ?_
 by_cases hj : j < os.length * 7
 ·have q1 : j / 7 < os.length := by omega
  have q2 : j % 7 < 7 := Nat.mod_lt _ (by omega)
  have e1 := flat7 os (j / 7) q1 (j % 7) q2
  have e2 := flat7 (os.set k y) (j / 7) (by simpa using q1) (j % 7) q2
  rw [show j / 7 * 7 + j % 7 = j by omega] at e1 e2
  rw [e2, List.getElem?_set]
  by_cases hjk : k * 7 + c = j
  ·have hkk : j / 7 = k := by omega
   have hcc : j % 7 = c := by omega
   rw [if_pos hjk, if_pos (by rw [flat_len encE 7 encE_len]; omega)]
   simp only [hkk, hcc, List.getElem_set_self, he]
   rw [List.getElem?_set, if_pos rfl, if_pos (by rw [encE_len]; exact hc)]
  ·rw [if_neg hjk, e1]
   by_cases hkk : k = j / 7
   ·subst hkk
    rw [List.getElem_set_self, he, List.getElem?_set, if_neg (by omega)]
   ·rw [List.getElem_set_ne hkk]
 ·rw [List.getElem?_eq_none (by rw [List.length_set, flat_len encE 7 encE_len]; omega), List.getElem?_eq_none (by rw [flat_len encE 7 encE_len, List.length_set]; omega)]
theorem RecsRd.grd {w : World} {v : Value} {l : List (El w)} {W : World} (h : RecsRd v (l.map (·.1)) W) : GRd 7 v (l.map encE) W := by
 obtain ⟨h0, o, cap, h1, h2, h3, h4, h5⟩ := h
 rw [List.length_map] at h1 h2
 refine ⟨o, cap, by rw [List.length_map]; exact h1, by rw [List.length_map]; exact h2, h3, h4, fun y hy => ?_, fun i hi c hc => ?_⟩
 ·obtain ⟨x, _, rfl⟩ := List.mem_map.1 hy
  exact ⟨encE_len x, x.2.1.one⟩
 ·rw [List.length_map] at hi
  rw [encP_map] at h5
  have hl : i * 7 + c < (l.flatMap encE).length := by rw [flat_len encE 7 encE_len]; omega
  obtain ⟨a, ha, e⟩ := h5 _ hl
  refine ⟨a, ha, ?_⟩
  rw [e, <- List.getElem?_eq_getElem hl, flat7 l i hi c hc, List.getElem_map]
theorem joinE_cells {w : World} (y x : El w) {y0 y2 y3 y4 y5 y6 x0 x2 x3 x4 x5 x6 : Value} (ey : encE y = [y0, .int .u32 (y.1.2.ttl : Int), y2, y3, y4, y5, y6]) (ex : encE x = [x0, .int .u32 (x.1.2.ttl : Int), x2, x3, x4, x5, x6]) (h : x.1.2.ttl < y.1.2.ttl) : encE (joinE y x) = (encE y).set 1 (.int .u32 (x.1.2.ttl : Int)) := by
 have : encE (joinE y x) = jC (encE y) (encE x) := rfl
 rw [this, ey, ex]
 simp only [jC]
 rw [show min (y.1.2.ttl : Int) x.1.2.ttl = x.1.2.ttl by omega]; rfl
theorem GRd.grown75 {k : Nat} {b : Nat} {n c : Nat} {xs : List (List Value)} {W W' : World} {row : Option Nat} (h : GRd k (.slice (some ⟨b, 0, none⟩) n c) xs W) (hg : W.grownBy W' row) (hr : ∀ g, row = some g -> g ≠ b) : GRd k (.slice (some ⟨b, 0, none⟩) n c) xs W' := by
 obtain ⟨o, cap, h1, h2, h3, h4, h5, h6⟩ := h
 cases h1
 refine ⟨_, _, rfl, h2, h3, h4, h5, fun i hi c hc => ?_⟩
 obtain ⟨a, ha, e⟩ := h6 i hi c hc
 refine ⟨a, ha, ?_⟩
 cases ha
 have hl : c < xs[i].length := by rw [(h5 _ (List.getElem_mem hi)).1]; exact hc
 rw [List.getElem?_eq_getElem hl] at e ⊢
 have hlt := cell_lt e
 rw [World.cell?_of_block (hg.block _ hlt (fun e' => hr _ e'.symm (by rw [add_block])))]
 exact e
def RCanR {w : World} (l : List (El w)) (w0 : World) (e : Ending) (w' : World) : Prop :=
 ∃ (c : List (El w)) (v' : Value), plE c = Rc.canon (plE l) /\ c.length <= l.length /\ e = .returned v' /\ RecsRd v' (c.map (·.1)) w' /\ Below w0.heap.size w0 w'
set_option maxHeartbeats 8000000 in
theorem refCanon_any {w w0 : World} (v : Value) (l : List (El w)) (hb0 : Below w.heap.size w w0) (hv : RecsRd v (l.map (·.1)) w0) (na : l.length <= 1000) :
  Calls Tryz.prog 21 #[v] w0 (RCanR l w0) := by
 obtain ⟨ov, cv, rfl⟩ : ∃ o cap, v = .slice o l.length cap := by obtain ⟨_, o, cap, h, _⟩ := hv; exact ⟨o, cap, by rw [h, List.length_map]⟩
 have HV := Lib.hid hv.el
 have HB0 := Lib.hid hb0
 have lz : (l.length : Int) <= 1000 := by omega
 clear hv hb0
 refine (callsIn_wide (n := 0)).1 ?_
 refine callsIn_of_wp Tryz.func21 rfl trivial ?_ rfl
 simp only [Tryz.ntmps21, List.size_toArray, List.length_cons, List.length_nil, Nat.reduceAdd, Nat.reduceSub, Array.replicate_succ, Array.replicate_zero, List.push_toArray, List.append_toArray, List.nil_append, List.cons_append]
 gi_wp2_with fail
 gi_loopw [3, 4] (fun vx vi W => ∃ (i : Nat) (os : List (El w)), i <= l.length /\ vi = .int .i64 i /\ os.length <= i /\ Hid (plE os = Rc.refCanon (plE (l.take i))) /\ Below w0.heap.size w0 W /\ Row (fun g => w0.heap.size <= g) 40 7 vx os.length (os.flatMap encE) W) (fun _ vi _ => l.length - (intOf vi).toNat)
 case atStart => exact ⟨0, [], Nat.zero_le _, rfl, Nat.le_refl _, rfl, Below.refl _ _, Row.nil _ _ _ _⟩
 case round =>
  obtain ⟨i, os, hi, rfl, hos, HI, hb, hrow⟩ := hrel
  by_cases hlt : i < l.length
  case neg =>
   have hlz : ¬ ((i : Int) < (l.length : Int)) := by omega
   obtain rfl : i = l.length := by omega
   have HB := Lib.hid hb
   have HR := Lib.hid hrow
   clear hb hrow
   gi_wp2_with fail
   go_ret
   have h1 := HI.out
   rw [List.take_length, <- Rc.canon_eq] at h1
   refine ⟨os, _, h1, hos, rfl, recsRd_of (Row.grd (e := 40) (R := fun g => w0.heap.size <= g) ?_ (fun c hc => ?_)) (fun x hx => ?_), HB.out⟩
   ·rw [List.length_map, List.length_map, List.map_map]; exact HR.out
   ·rw [List.map_map] at hc
    obtain ⟨x, _, rfl⟩ := List.mem_map.1 hc
    exact ⟨encE_len x, x.2.1.one⟩
   ·obtain ⟨y, _, rfl⟩ := List.mem_map.1 hx
    exact y.2.1.below (below5 HB0.out HB.out)
  case pos =>
  have hlz : (i : Int) < (l.length : Int) := by omega
  obtain ⟨x, hx⟩ : ∃ x, l[i] = x := ⟨_, rfl⟩
  obtain ⟨p0, n0, q0, p1, n1, q1, p2, n2, q2, p3, n3, q3, p4, n4, q4, ex⟩ := x.cells
  have HCE : Hid (∀ W', Below w0.heap.size w0 W' -> ∃ a, ov = some a /\ W'.cell? (a.add (i * 7)) = some (.slice p0 n0 q0) /\ W'.cell? ⟨(a.add (i * 7)).block, (a.add (i * 7)).off + 1, none⟩ = some (.int .u32 (x.1.2.ttl : Int)) /\ W'.cell? ⟨(a.add (i * 7)).block, (a.add (i * 7)).off + 2, none⟩ = some (.int .i64 x.1.2.type) /\ W'.cell? ⟨(a.add (i * 7)).block, (a.add (i * 7)).off + 3, none⟩ = some (.slice p1 n1 q1) /\ W'.cell? ⟨(a.add (i * 7)).block, (a.add (i * 7)).off + 4, none⟩ = some (.slice p2 n2 q2) /\ W'.cell? ⟨(a.add (i * 7)).block, (a.add (i * 7)).off + 5, none⟩ = some (.slice p3 n3 q3) /\ W'.cell? ⟨(a.add (i * 7)).block, (a.add (i * 7)).off + 6, none⟩ = some (.slice p4 n4 q4)) := fun W' hW => HV.out W' hW i hlt _ _ _ _ _ _ _ (by rw [hx]; exact ex)
  obtain ⟨ga, rfl, _⟩ := HCE.out _ hb
  obtain ⟨e, he⟩ : ∃ e, ga.add (i * 7) = e := ⟨_, rfl⟩
  have HXS : Hid (∀ W', Below w0.heap.size w0 W' -> Cs [(e, .slice p0 n0 q0), (⟨e.block, e.off + 1, none⟩, .int .u32 (x.1.2.ttl : Int)), (⟨e.block, e.off + 2, none⟩, .int .i64 x.1.2.type), (⟨e.block, e.off + 3, none⟩, .slice p1 n1 q1), (⟨e.block, e.off + 4, none⟩, .slice p2 n2 q2), (⟨e.block, e.off + 5, none⟩, .slice p3 n3 q3), (⟨e.block, e.off + 6, none⟩, .slice p4 n4 q4)] W') := fun W' hW => by
   obtain ⟨a, ha, h0, h1, h2, h3, h4, h5, h6⟩ := HCE.out W' hW
   cases ha
   rw [he] at h0 h1 h2 h3 h4 h5 h6
   exact ⟨h0, h1, h2, h3, h4, h5, h6, trivial⟩
  have htk : l.take (i + 1) = l.take i ++ [x] := by rw [List.take_succ_eq_append_getElem hlt, hx]
  have HIN : Hid (Rc.refCanon (plE (l.take (i + 1))) = Rc.put x.1.2 (plE os)) := by show _ = _; rw [htk, plE_snoc, Rc.refCanon_snoc, HI.out]
  have hxr : RecRd [.slice p0 n0 q0, .int .u32 (x.1.2.ttl : Int), .int .i64 x.1.2.type, .slice p1 n1 q1, .slice p2 n2 q2, .slice p3 n3 q3, .slice p4 n4 q4] x.1.2 w := by have h := x.2.1; rw [show x.1.1 = _ from ex] at h; exact h
  have HXR := Lib.hid hxr
  have HEX := Lib.hid ex
  have HR := Lib.hid hrow
  have HB := Lib.hid hb
  obtain ⟨ox, cx, rfl⟩ := hrow.form
  have hosz : (os.length : Int) <= 1000 := by omega
  have hcx : os.length <= cx /\ cx <= 9223372036854775807 := by
   obtain ⟨⟨_, ho⟩, _⟩ := hrow
   rcases ho with ⟨h1, h2⟩ | ⟨g', cap', cur, h1, _, _, h3, h4, _⟩
   ·simp only [Value.slice.injEq] at h1; omega
   ·simp only [Value.slice.injEq] at h1; unfold maxLen at h4; omega
  obtain ⟨hcx1, hcx2⟩ := hcx
  clear hx ex htk hxr hb hrow
  generalize wr = wo at *
  gi_wp2_with fail
  gi_loopw [5] (fun vk W => ∃ k : Nat, k <= os.length /\ vk = .int .i64 k /\ Hid (∀ j (h : j < os.length), j < k -> Rc.cmp os[j].1.2 x.1.2 < 0) /\ Below wo.heap.size wo W) (fun vk _ => os.length - (intOf vk).toNat)
  case atStart => exact ⟨0, Nat.zero_le _, rfl, (fun j h h0 => absurd h0 (by omega)), Below.refl _ _⟩
  case round =>
   obtain ⟨k, hk, rfl, HK, hbk⟩ := hrel
   have HBK := Lib.hid hbk
   have HBK0 := Lib.hid (below5 HB.out hbk)
   have HRK := Lib.hid (HR.out.below hbk)
   have HPS : Hid (Rc.put x.1.2 (plE os) = (plE os).take k ++ Rc.put x.1.2 ((plE os).drop k)) := Rc.put_split _ _ _ (by rw [plE_len]; exact hk) (fun j hj hjk => by rw [plE_get]; exact HK.out j _ hjk)
   clear hbk
   by_cases hkl : k < os.length
   ·have hkz : (k : Int) < (os.length : Int) := by omega
    obtain ⟨y, hy⟩ : ∃ y, os[k] = y := ⟨_, rfl⟩
    obtain ⟨r0, k0, t0, r1, k1, t1, r2, k2, t2, r3, k3, t3, r4, k4, t4, ey⟩ := y.cells
    obtain ⟨g, c', hg⟩ := HR.out.some_block (by omega)
    cases hg
    have hyr : RecRd [.slice r0 k0 t0, .int .u32 (y.1.2.ttl : Int), .int .i64 y.1.2.type, .slice r1 k1 t1, .slice r2 k2 t2, .slice r3 k3 t3, .slice r4 k4 t4] y.1.2 w := by have h := y.2.1; rw [show y.1.1 = _ from ey] at h; exact h
    have HYS : Hid (∀ W', Below wo.heap.size wo W' -> Cs [(⟨g, k * 7, none⟩, Value.slice r0 k0 t0), (⟨g, k * 7 + 1, none⟩, .int .u32 (y.1.2.ttl : Int)), (⟨g, k * 7 + 2, none⟩, .int .i64 y.1.2.type), (⟨g, k * 7 + 3, none⟩, .slice r1 k1 t1), (⟨g, k * 7 + 4, none⟩, .slice r2 k2 t2), (⟨g, k * 7 + 5, none⟩, .slice r3 k3 t3), (⟨g, k * 7 + 6, none⟩, .slice r4 k4 t4), (e, .slice p0 n0 q0), (⟨e.block, e.off + 1, none⟩, .int .u32 (x.1.2.ttl : Int)), (⟨e.block, e.off + 2, none⟩, .int .i64 x.1.2.type), (⟨e.block, e.off + 3, none⟩, .slice p1 n1 q1), (⟨e.block, e.off + 4, none⟩, .slice p2 n2 q2), (⟨e.block, e.off + 5, none⟩, .slice p3 n3 q3), (⟨e.block, e.off + 6, none⟩, .slice p4 n4 q4)] W') := fun W' hW => by
     obtain ⟨h0, h1, h2, h3, h4, h5, h6⟩ := Row.el (HR.out.below hW) k hkl (by rw [hy]; exact ey)
     exact ⟨h0, h1, h2, h3, h4, h5, h6, HXS.out W' (below5 HB.out hW)⟩
    obtain ⟨z, hz⟩ : ∃ z, Rc.cmp y.1.2 x.1.2 = z := ⟨_, rfl⟩
    have HCR := Lib.hid (fun W' (hW : Below wo.heap.size wo W') => refCompareRec_any _ _ y.1.2 x.1.2 W' (hyr.below (below5 HB0.out (below5 HB.out hW))) (HXR.out.below (below5 HB0.out (below5 HB.out hW))) y.2.2 x.2.2)
    have HSR := Lib.hid (fun W' (hW : Below wo.heap.size wo W') => refSameRec_any _ _ y.1.2 x.1.2 W' (hyr.below (below5 HB0.out (below5 HB.out hW))) (HXR.out.below (below5 HB0.out (below5 HB.out hW))) y.2.2 x.2.2)
    rw [hz] at HCR HSR
    have HZ := Lib.hid hz
    have HY := Lib.hid hy
    have HEY := Lib.hid ey
    clear hyr hz hy ey
    gi_wp2_with fail
    refine drawnH (List.range 16) (Cs [(⟨g, k * 7, none⟩, Value.slice r0 k0 t0), (⟨g, k * 7 + 1, none⟩, .int .u32 (y.1.2.ttl : Int)), (⟨g, k * 7 + 2, none⟩, .int .i64 y.1.2.type), (⟨g, k * 7 + 3, none⟩, .slice r1 k1 t1), (⟨g, k * 7 + 4, none⟩, .slice r2 k2 t2), (⟨g, k * 7 + 5, none⟩, .slice r3 k3 t3), (⟨g, k * 7 + 6, none⟩, .slice r4 k4 t4), (e, .slice p0 n0 q0), (⟨e.block, e.off + 1, none⟩, .int .u32 (x.1.2.ttl : Int)), (⟨e.block, e.off + 2, none⟩, .int .i64 x.1.2.type), (⟨e.block, e.off + 3, none⟩, .slice p1 n1 q1), (⟨e.block, e.off + 4, none⟩, .slice p2 n2 q2), (⟨e.block, e.off + 5, none⟩, .slice p3 n3 q3), (⟨e.block, e.off + 6, none⟩, .slice p4 n4 q4)]) 16 rfl (by kernel_rfl) ?_
    intro wa hwa
    have HBA : Hid (Below wo.heap.size wo wa) := by subst hwa; exact HBK.out.drew
    have hS := HYS.out wa HBA.out
    clear hwa
    refine tH 0 ?qav0 hS (fun w1 ⟨y0, y1, y2, y3, y4, y5, y6, x0, x1, x2, x3, x4, x5, x6, _⟩ => ?qay0) ?_
    case qay0 => go_simp; try rfl
    refine tH 1 ?qav1 hS (fun w1 ⟨y0, y1, y2, y3, y4, y5, y6, x0, x1, x2, x3, x4, x5, x6, _⟩ => ?qay1) ?_
    case qay1 => go_simp; try rfl
    refine tH 2 ?qav2 hS (fun w1 ⟨y0, y1, y2, y3, y4, y5, y6, x0, x1, x2, x3, x4, x5, x6, _⟩ => ?qay2) ?_
    case qay2 => go_simp; try rfl
    refine tH 3 ?qav3 hS (fun w1 ⟨y0, y1, y2, y3, y4, y5, y6, x0, x1, x2, x3, x4, x5, x6, _⟩ => ?qay3) ?_
    case qay3 => go_simp; try rfl
    refine tH 4 ?qav4 hS (fun w1 ⟨y0, y1, y2, y3, y4, y5, y6, x0, x1, x2, x3, x4, x5, x6, _⟩ => ?qay4) ?_
    case qay4 => go_simp; try rfl
    refine tH 5 ?qav5 hS (fun w1 ⟨y0, y1, y2, y3, y4, y5, y6, x0, x1, x2, x3, x4, x5, x6, _⟩ => ?qay5) ?_
    case qay5 => go_simp; try rfl
    refine tH 6 ?qav6 hS (fun w1 ⟨y0, y1, y2, y3, y4, y5, y6, x0, x1, x2, x3, x4, x5, x6, _⟩ => ?qay6) ?_
    case qay6 => go_simp; try rfl
    refine tH 7 ?qav7 hS (fun w1 ⟨y0, y1, y2, y3, y4, y5, y6, x0, x1, x2, x3, x4, x5, x6, _⟩ => ?qay7) ?_
    case qay7 => go_simp; try rfl
    simp only [Act.put, List.setIfInBounds_toArray, List.set_cons_succ, List.set_cons_zero]
    refine tH 8 ?qav8 hS (fun w1 ⟨y0, y1, y2, y3, y4, y5, y6, x0, x1, x2, x3, x4, x5, x6, _⟩ => ?qay8) ?_
    case qay8 => go_simp; try rfl
    refine tH 9 ?qav9 hS (fun w1 ⟨y0, y1, y2, y3, y4, y5, y6, x0, x1, x2, x3, x4, x5, x6, _⟩ => ?qay9) ?_
    case qay9 => go_simp; try rfl
    refine tH 10 ?qav10 hS (fun w1 ⟨y0, y1, y2, y3, y4, y5, y6, x0, x1, x2, x3, x4, x5, x6, _⟩ => ?qay10) ?_
    case qay10 => go_simp; try rfl
    refine tH 11 ?qav11 hS (fun w1 ⟨y0, y1, y2, y3, y4, y5, y6, x0, x1, x2, x3, x4, x5, x6, _⟩ => ?qay11) ?_
    case qay11 => go_simp; try rfl
    refine tH 12 ?qav12 hS (fun w1 ⟨y0, y1, y2, y3, y4, y5, y6, x0, x1, x2, x3, x4, x5, x6, _⟩ => ?qay12) ?_
    case qay12 => go_simp; try rfl
    simp only [Act.put, List.setIfInBounds_toArray, List.set_cons_succ, List.set_cons_zero]
    refine oneH 13 (by rfl) (by kernel_rfl) (fun K hK => ?_)
    gi_wp2_with (gi_at_call 12; refine (callsIn_wide.2 (HCR.out wa HBA.out)).mono ?_; rintro e9 wb ⟨rfl, b9⟩)
    have HBB := Lib.hid (below5 HBA.out b9)
    replace hS := HYS.out wb HBB.out
    refine hK _ _ (fun _ => hS) ?_
    clear hK K b9
    by_cases hzl : z < 0
    ·have hzd : decide (z < 0) = true := decide_eq_true hzl
     refine tH 14 ?qbv14 hS (fun w1 ⟨y0, y1, y2, y3, y4, y5, y6, x0, x1, x2, x3, x4, x5, x6, _⟩ => ?qby14) ?_
     case qby14 => go_simp; try rfl
     refine tH 15 ?qbv15 hS (fun w1 ⟨y0, y1, y2, y3, y4, y5, y6, x0, x1, x2, x3, x4, x5, x6, _⟩ => ?qby15) ?_
     case qby15 => go_simp; try rfl
     simp only [Act.put, List.setIfInBounds_toArray, List.set_cons_succ, List.set_cons_zero]
     refine doneH (by kernel_rfl) ?_
     clear hS
     gi_wp2_with fail
     refine ⟨⟨k + 1, hkl, by go_num, ?_, HBB.out⟩, by simp [intOf]; omega⟩
     show ∀ j (h : j < os.length), j < k + 1 -> _
     intro j hj hjk
     by_cases hjk' : j < k
     ·exact HK.out j hj hjk'
     ·obtain rfl : j = k := by omega
      rw [HY.out, HZ.out]; exact hzl
    ·have hzd : decide (z < 0) = false := decide_eq_false hzl
     refine tH 14 ?qcv14 hS (fun w1 ⟨y0, y1, y2, y3, y4, y5, y6, x0, x1, x2, x3, x4, x5, x6, _⟩ => ?qcy14) ?_
     case qcy14 => go_simp; try rfl
     refine tH 15 ?qcv15 hS (fun w1 ⟨y0, y1, y2, y3, y4, y5, y6, x0, x1, x2, x3, x4, x5, x6, _⟩ => ?qcy15) ?_
     case qcy15 => go_simp; try rfl
     simp only [Act.put, List.setIfInBounds_toArray, List.set_cons_succ, List.set_cons_zero]
     refine doneH (by kernel_rfl) ?_
     clear hS
     gi_wp2_with fail
     refine drawnH (List.range 15) (Cs [(⟨g, k * 7, none⟩, Value.slice r0 k0 t0), (⟨g, k * 7 + 1, none⟩, .int .u32 (y.1.2.ttl : Int)), (⟨g, k * 7 + 2, none⟩, .int .i64 y.1.2.type), (⟨g, k * 7 + 3, none⟩, .slice r1 k1 t1), (⟨g, k * 7 + 4, none⟩, .slice r2 k2 t2), (⟨g, k * 7 + 5, none⟩, .slice r3 k3 t3), (⟨g, k * 7 + 6, none⟩, .slice r4 k4 t4), (e, .slice p0 n0 q0), (⟨e.block, e.off + 1, none⟩, .int .u32 (x.1.2.ttl : Int)), (⟨e.block, e.off + 2, none⟩, .int .i64 x.1.2.type), (⟨e.block, e.off + 3, none⟩, .slice p1 n1 q1), (⟨e.block, e.off + 4, none⟩, .slice p2 n2 q2), (⟨e.block, e.off + 5, none⟩, .slice p3 n3 q3), (⟨e.block, e.off + 6, none⟩, .slice p4 n4 q4)]) 15 rfl (by kernel_rfl) ?_
     intro wc hwc
     have HBC : Hid (Below wo.heap.size wo wc) := by subst hwc; exact HBB.out.drew
     have hS := HYS.out wc HBC.out
     clear hwc
     refine tH 0 ?qdv0 hS (fun w1 ⟨y0, y1, y2, y3, y4, y5, y6, x0, x1, x2, x3, x4, x5, x6, _⟩ => ?qdy0) ?_
     case qdy0 => go_simp; try rfl
     refine tH 1 ?qdv1 hS (fun w1 ⟨y0, y1, y2, y3, y4, y5, y6, x0, x1, x2, x3, x4, x5, x6, _⟩ => ?qdy1) ?_
     case qdy1 => go_simp; try rfl
     refine tH 2 ?qdv2 hS (fun w1 ⟨y0, y1, y2, y3, y4, y5, y6, x0, x1, x2, x3, x4, x5, x6, _⟩ => ?qdy2) ?_
     case qdy2 => go_simp; try rfl
     refine tH 3 ?qdv3 hS (fun w1 ⟨y0, y1, y2, y3, y4, y5, y6, x0, x1, x2, x3, x4, x5, x6, _⟩ => ?qdy3) ?_
     case qdy3 => go_simp; try rfl
     refine tH 4 ?qdv4 hS (fun w1 ⟨y0, y1, y2, y3, y4, y5, y6, x0, x1, x2, x3, x4, x5, x6, _⟩ => ?qdy4) ?_
     case qdy4 => go_simp; try rfl
     refine tH 5 ?qdv5 hS (fun w1 ⟨y0, y1, y2, y3, y4, y5, y6, x0, x1, x2, x3, x4, x5, x6, _⟩ => ?qdy5) ?_
     case qdy5 => go_simp; try rfl
     refine tH 6 ?qdv6 hS (fun w1 ⟨y0, y1, y2, y3, y4, y5, y6, x0, x1, x2, x3, x4, x5, x6, _⟩ => ?qdy6) ?_
     case qdy6 => go_simp; try rfl
     refine tH 7 ?qdv7 hS (fun w1 ⟨y0, y1, y2, y3, y4, y5, y6, x0, x1, x2, x3, x4, x5, x6, _⟩ => ?qdy7) ?_
     case qdy7 => go_simp; try rfl
     simp only [Act.put, List.setIfInBounds_toArray, List.set_cons_succ, List.set_cons_zero]
     refine tH 8 ?qdv8 hS (fun w1 ⟨y0, y1, y2, y3, y4, y5, y6, x0, x1, x2, x3, x4, x5, x6, _⟩ => ?qdy8) ?_
     case qdy8 => go_simp; try rfl
     refine tH 9 ?qdv9 hS (fun w1 ⟨y0, y1, y2, y3, y4, y5, y6, x0, x1, x2, x3, x4, x5, x6, _⟩ => ?qdy9) ?_
     case qdy9 => go_simp; try rfl
     refine tH 10 ?qdv10 hS (fun w1 ⟨y0, y1, y2, y3, y4, y5, y6, x0, x1, x2, x3, x4, x5, x6, _⟩ => ?qdy10) ?_
     case qdy10 => go_simp; try rfl
     refine tH 11 ?qdv11 hS (fun w1 ⟨y0, y1, y2, y3, y4, y5, y6, x0, x1, x2, x3, x4, x5, x6, _⟩ => ?qdy11) ?_
     case qdy11 => go_simp; try rfl
     refine tH 12 ?qdv12 hS (fun w1 ⟨y0, y1, y2, y3, y4, y5, y6, x0, x1, x2, x3, x4, x5, x6, _⟩ => ?qdy12) ?_
     case qdy12 => go_simp; try rfl
     simp only [Act.put, List.setIfInBounds_toArray, List.set_cons_succ, List.set_cons_zero]
     refine oneH 13 (by rfl) (by kernel_rfl) (fun K hK => ?_)
     gi_wp2_with (gi_at_call 50; refine (callsIn_wide.2 (HSR.out wc HBC.out)).mono ?_; rintro e9 wd ⟨rfl, b9⟩)
     have HBD := Lib.hid (below5 HBC.out b9)
     replace hS := HYS.out wd HBD.out
     refine hK _ _ (fun _ => hS) ?_
     clear hK K b9
     have HPD : Hid ((plE os).drop k = y.1.2 :: (plE os).drop (k + 1)) := by
      show _ = _
      rw [List.drop_eq_getElem_cons (by rw [plE_len]; exact hkl), plE_get, HY.out]
     have HHZ : Hid (Rc.cmp y.1.2 x.1.2 = z) := HZ.out
     by_cases hz0 : z = 0
     ·subst hz0
      have hbq : ((0 : Int) == 0) = true := rfl
      rw [hbq]
      refine tH 14 ?qev14 hS (fun w1 ⟨y0, y1, y2, y3, y4, y5, y6, x0, x1, x2, x3, x4, x5, x6, _⟩ => ?qey14) ?_
      case qey14 => go_simp; try rfl
      simp only [Act.put, List.setIfInBounds_toArray, List.set_cons_succ, List.set_cons_zero]
      refine doneH (by kernel_rfl) ?_
      clear hS
      gi_wp2_with fail
      refine drawnH (List.range 11) (Cs [(⟨g, k * 7, none⟩, Value.slice r0 k0 t0), (⟨g, k * 7 + 1, none⟩, .int .u32 (y.1.2.ttl : Int)), (⟨g, k * 7 + 2, none⟩, .int .i64 y.1.2.type), (⟨g, k * 7 + 3, none⟩, .slice r1 k1 t1), (⟨g, k * 7 + 4, none⟩, .slice r2 k2 t2), (⟨g, k * 7 + 5, none⟩, .slice r3 k3 t3), (⟨g, k * 7 + 6, none⟩, .slice r4 k4 t4), (e, .slice p0 n0 q0), (⟨e.block, e.off + 1, none⟩, .int .u32 (x.1.2.ttl : Int)), (⟨e.block, e.off + 2, none⟩, .int .i64 x.1.2.type), (⟨e.block, e.off + 3, none⟩, .slice p1 n1 q1), (⟨e.block, e.off + 4, none⟩, .slice p2 n2 q2), (⟨e.block, e.off + 5, none⟩, .slice p3 n3 q3), (⟨e.block, e.off + 6, none⟩, .slice p4 n4 q4)]) 11 rfl (by kernel_rfl) ?_
      intro we hwe
      have HBE : Hid (Below wo.heap.size wo we) := by subst hwe; exact HBD.out.drew
      have hS := HYS.out we HBE.out
      clear hwe
      by_cases htt : x.1.2.ttl < y.1.2.ttl
      ·have htz : (x.1.2.ttl : Int) < (y.1.2.ttl : Int) := by omega
       have htd : decide (x.1.2.ttl < y.1.2.ttl) = true := decide_eq_true htt
       refine tH 0 ?qfv0 hS (fun w1 ⟨y0, y1, y2, y3, y4, y5, y6, x0, x1, x2, x3, x4, x5, x6, _⟩ => ?qfy0) ?_
       case qfy0 => go_simp; try rfl
       refine tH 1 ?qfv1 hS (fun w1 ⟨y0, y1, y2, y3, y4, y5, y6, x0, x1, x2, x3, x4, x5, x6, _⟩ => ?qfy1) ?_
       case qfy1 => go_simp; try rfl
       refine tH 2 ?qfv2 hS (fun w1 ⟨y0, y1, y2, y3, y4, y5, y6, x0, x1, x2, x3, x4, x5, x6, _⟩ => ?qfy2) ?_
       case qfy2 => go_simp; try rfl
       refine tH 3 ?qfv3 hS (fun w1 ⟨y0, y1, y2, y3, y4, y5, y6, x0, x1, x2, x3, x4, x5, x6, _⟩ => ?qfy3) ?_
       case qfy3 => go_simp; try rfl
       refine tH 4 ?qfv4 hS (fun w1 ⟨y0, y1, y2, y3, y4, y5, y6, x0, x1, x2, x3, x4, x5, x6, _⟩ => ?qfy4) ?_
       case qfy4 => go_simp; try rfl
       refine tH 5 ?qfv5 hS (fun w1 ⟨y0, y1, y2, y3, y4, y5, y6, x0, x1, x2, x3, x4, x5, x6, _⟩ => ?qfy5) ?_
       case qfy5 => go_simp; try rfl
       refine tH 6 ?qfv6 hS (fun w1 ⟨y0, y1, y2, y3, y4, y5, y6, x0, x1, x2, x3, x4, x5, x6, _⟩ => ?qfy6) ?_
       case qfy6 => go_simp; try rfl
       refine tH 7 ?qfv7 hS (fun w1 ⟨y0, y1, y2, y3, y4, y5, y6, x0, x1, x2, x3, x4, x5, x6, _⟩ => ?qfy7) ?_
       case qfy7 => go_simp; try rfl
       simp only [Act.put, List.setIfInBounds_toArray, List.set_cons_succ, List.set_cons_zero]
       refine tH 8 ?qfv8 hS (fun w1 ⟨y0, y1, y2, y3, y4, y5, y6, x0, x1, x2, x3, x4, x5, x6, _⟩ => ?qfy8) ?_
       case qfy8 => go_simp; try rfl
       refine tH 9 ?qfv9 hS (fun w1 ⟨y0, y1, y2, y3, y4, y5, y6, x0, x1, x2, x3, x4, x5, x6, _⟩ => ?qfy9) ?_
       case qfy9 => go_simp; try rfl
       refine tH 10 ?qfv10 hS (fun w1 ⟨y0, y1, y2, y3, y4, y5, y6, x0, x1, x2, x3, x4, x5, x6, _⟩ => ?qfy10) ?_
       case qfy10 => go_simp; try rfl
       simp only [Act.put, List.setIfInBounds_toArray, List.set_cons_succ, List.set_cons_zero]
       refine doneH (by kernel_rfl) ?_
       have y1 := hS.2.1
       have x1 := hS.2.2.2.2.2.2.2.2.1
       have yf := (Row.cellAt (HR.out.below HBE.out) (k * 7 + 1) (by omega)).2
       clear hS
       gi_wp2_with fail
       refine ⟨⟨i + 1, os.set k (joinE y x), hlt, by go_num, by rw [List.length_set]; omega, ?_, ?_, ?_⟩, by simp [intOf]; omega⟩
       ·show _ = _
        rw [HIN.out, HPS.out, HPD.out, Rc.put_cons, if_neg (by rw [HHZ.out]; omega), if_pos HHZ.out, if_pos htt]
        rw [plE, List.map_set, List.set_eq_take_append_cons_drop, if_pos (by simpa using hkl)]
        show _ = (plE os).take k ++ _ :: (plE os).drop (k + 1)
        congr 2
        show Rc.join y.1.2 x.1.2 = _
        unfold Rc.join
        rw [show min y.1.2.ttl x.1.2.ttl = x.1.2.ttl by omega]
       ·exact (below5 HB.out HBE.out).setCell (p := ⟨g, k * 7 + 1, none⟩) (HR.out.2 g rfl) _
       ·rw [List.length_set]
        have := Row.set1 (HR.out.below HBE.out) (k * 7 + 1) (.int .u32 (x.1.2.ttl : Int))
        rw [flat_set os k hkl (joinE y x) 1 _ (by decide) (by rw [HY.out]; exact joinE_cells y x HEY.out HEX.out htt)] at this
        exact this
      ·have htz : ¬ (x.1.2.ttl : Int) < (y.1.2.ttl : Int) := by omega
       have htd : decide (x.1.2.ttl < y.1.2.ttl) = false := decide_eq_false htt
       refine tH 0 ?qgv0 hS (fun w1 ⟨y0, y1, y2, y3, y4, y5, y6, x0, x1, x2, x3, x4, x5, x6, _⟩ => ?qgy0) ?_
       case qgy0 => go_simp; try rfl
       refine tH 1 ?qgv1 hS (fun w1 ⟨y0, y1, y2, y3, y4, y5, y6, x0, x1, x2, x3, x4, x5, x6, _⟩ => ?qgy1) ?_
       case qgy1 => go_simp; try rfl
       refine tH 2 ?qgv2 hS (fun w1 ⟨y0, y1, y2, y3, y4, y5, y6, x0, x1, x2, x3, x4, x5, x6, _⟩ => ?qgy2) ?_
       case qgy2 => go_simp; try rfl
       refine tH 3 ?qgv3 hS (fun w1 ⟨y0, y1, y2, y3, y4, y5, y6, x0, x1, x2, x3, x4, x5, x6, _⟩ => ?qgy3) ?_
       case qgy3 => go_simp; try rfl
       refine tH 4 ?qgv4 hS (fun w1 ⟨y0, y1, y2, y3, y4, y5, y6, x0, x1, x2, x3, x4, x5, x6, _⟩ => ?qgy4) ?_
       case qgy4 => go_simp; try rfl
       refine tH 5 ?qgv5 hS (fun w1 ⟨y0, y1, y2, y3, y4, y5, y6, x0, x1, x2, x3, x4, x5, x6, _⟩ => ?qgy5) ?_
       case qgy5 => go_simp; try rfl
       refine tH 6 ?qgv6 hS (fun w1 ⟨y0, y1, y2, y3, y4, y5, y6, x0, x1, x2, x3, x4, x5, x6, _⟩ => ?qgy6) ?_
       case qgy6 => go_simp; try rfl
       refine tH 7 ?qgv7 hS (fun w1 ⟨y0, y1, y2, y3, y4, y5, y6, x0, x1, x2, x3, x4, x5, x6, _⟩ => ?qgy7) ?_
       case qgy7 => go_simp; try rfl
       simp only [Act.put, List.setIfInBounds_toArray, List.set_cons_succ, List.set_cons_zero]
       refine tH 8 ?qgv8 hS (fun w1 ⟨y0, y1, y2, y3, y4, y5, y6, x0, x1, x2, x3, x4, x5, x6, _⟩ => ?qgy8) ?_
       case qgy8 => go_simp; try rfl
       refine tH 9 ?qgv9 hS (fun w1 ⟨y0, y1, y2, y3, y4, y5, y6, x0, x1, x2, x3, x4, x5, x6, _⟩ => ?qgy9) ?_
       case qgy9 => go_simp; try rfl
       refine tH 10 ?qgv10 hS (fun w1 ⟨y0, y1, y2, y3, y4, y5, y6, x0, x1, x2, x3, x4, x5, x6, _⟩ => ?qgy10) ?_
       case qgy10 => go_simp; try rfl
       simp only [Act.put, List.setIfInBounds_toArray, List.set_cons_succ, List.set_cons_zero]
       refine doneH (by kernel_rfl) ?_
       clear hS
       gi_wp2_with fail
       refine ⟨⟨i + 1, os, hlt, by go_num, by omega, ?_, below5 HB.out HBE.out, HR.out.below HBE.out⟩, by simp [intOf]; omega⟩
       show _ = _
       rw [HIN.out, HPS.out, HPD.out, Rc.put_cons, if_neg (by rw [HHZ.out]; omega), if_pos HHZ.out, if_neg htt, <- HPD.out, List.take_append_drop]
     ·have hbq : (z == 0) = false := by rw [beq_eq_false_iff_ne]; exact hz0
      rw [hbq]
      refine tH 14 ?qhv14 hS (fun w1 ⟨y0, y1, y2, y3, y4, y5, y6, x0, x1, x2, x3, x4, x5, x6, _⟩ => ?qhy14) ?_
      case qhy14 => go_simp; try rfl
      simp only [Act.put, List.setIfInBounds_toArray, List.set_cons_succ, List.set_cons_zero]
      refine doneH (by kernel_rfl) ?_
      clear hS
      have HPT : Hid (Rc.put x.1.2 ((plE os).drop k) = x.1.2 :: (plE os).drop k) := by
       show _ = _
       rw [HPD.out, Rc.put_cons, if_neg (by rw [HHZ.out]; omega), if_neg (by rw [HHZ.out]; omega)]
      have hkz2 : (k : Int) <= (cx : Int) := by omega
      gi_wp2_with fail
      refine drawnH [0, 4, 8, 10] (Cs [(e, .slice p0 n0 q0), (⟨e.block, e.off + 1, none⟩, .int .u32 (x.1.2.ttl : Int)), (⟨e.block, e.off + 2, none⟩, .int .i64 x.1.2.type), (⟨e.block, e.off + 3, none⟩, .slice p1 n1 q1), (⟨e.block, e.off + 4, none⟩, .slice p2 n2 q2), (⟨e.block, e.off + 5, none⟩, .slice p3 n3 q3), (⟨e.block, e.off + 6, none⟩, .slice p4 n4 q4)]) 12 rfl (by kernel_rfl) ?_
      intro wj hwj
      have HBJ : Hid (Below w0.heap.size w0 wj) := by subst hwj; exact (below5 HB.out HBD.out).drew
      have HRJ : Hid (Row (fun g => w0.heap.size <= g) 40 7 (.slice (some ⟨g, 0, none⟩) os.length cx) os.length (os.flatMap encE) wj) := by subst hwj; exact (HR.out.below HBD.out).drew
      have hS : Cs [(e, .slice p0 n0 q0), (⟨e.block, e.off + 1, none⟩, .int .u32 (x.1.2.ttl : Int)), (⟨e.block, e.off + 2, none⟩, .int .i64 x.1.2.type), (⟨e.block, e.off + 3, none⟩, .slice p1 n1 q1), (⟨e.block, e.off + 4, none⟩, .slice p2 n2 q2), (⟨e.block, e.off + 5, none⟩, .slice p3 n3 q3), (⟨e.block, e.off + 6, none⟩, .slice p4 n4 q4)] wj := HXS.out wj HBJ.out
      clear hwj
      refine tP 1 ?qBav1 (fun w1 _ => ?qBay1) ?_
      case qBay1 => go_simp; try rfl
      refine tP 2 ?qBav2 (fun w1 _ => ?qBay2) ?_
      case qBay2 => go_simp; try rfl
      refine tP 3 ?qBav3 (fun w1 _ => ?qBay3) ?_
      case qBay3 => go_simp; try rfl
      refine tP 5 ?qBav5 (fun w1 _ => ?qBay5) ?_
      case qBay5 => go_simp; try rfl
      refine tP 6 ?qBav6 (fun w1 _ => ?qBay6) ?_
      case qBay6 => go_simp; try rfl
      refine tP 7 ?qBav7 (fun w1 _ => ?qBay7) ?_
      case qBay7 => go_simp; try rfl
      simp only [Act.put, List.setIfInBounds_toArray, List.set_cons_succ, List.set_cons_zero]
      refine tH 8 ?qBav8 hS (fun w1 ⟨x0, x1, x2, x3, x4, x5, x6, _⟩ => ?qBay8) ?_
      case qBay8 => go_simp; try rfl
      simp only [Act.put, List.setIfInBounds_toArray, List.set_cons_succ, List.set_cons_zero]
      have HGR : Hid (GRd 7 (.slice (some ⟨g, 0, none⟩) os.length cx) (os.map encE) wj) := Row.grd (by rw [List.length_map]; exact HRJ.out) (fun c hc => by
       obtain ⟨y, _, rfl⟩ := List.mem_map.1 hc
       exact ⟨encE_len y, y.2.1.one⟩)
      have HTK : Hid (∀ W', Below wj.heap.size wj W' -> GRd 7 (.slice (some ⟨g, 0, none⟩) k cx) ((os.take k).map encE) W') := fun W' hW => by
       have h := HGR.out.take k cx (by omega) (by omega) (Nat.le_refl _) (fun h => by
        obtain ⟨⟨_, ho⟩, _⟩ := HRJ.out
        rcases ho with ⟨h1, _⟩ | ⟨g', cap', cur, h1, _⟩
        ·simp only [Value.slice.injEq] at h1; omega
        ·first | (cases h1; done) | (simp only [Value.slice.injEq] at h1; rw [h1.1] at h; cases h) | cases h)
       rw [<- List.map_take] at h
       exact h.below hW
      apply finQ (fun (_ _ : Nat) (_ v76 : Value) (W4 : World) => Row (fun g => wj.heap.size <= g) 40 7 v76 (k + 1) ((os.take k ++ [x]).map encE).flatten W4 /\ Below wj.heap.size wj W4)
      case h1 =>
       intro FIN
       refine twoH2 0 9 (by rfl) (by rfl) (by kernel_rfl) (fun K hK => ?_) (fun K hK => ?_)
       ·gi_wp2_with fail
        obtain ⟨wa, hwn0⟩ : ∃ W, wj.alloc (.cells #[] 40) = W := ⟨_, rfl⟩
        have ha : Below wj.heap.size wj wa := by rw [<- hwn0]; exact ((Below.refl wj.heap.size wj)).alloc ((Below.refl wj.heap.size wj)).size _
        obtain ⟨b66, hb66⟩ : ∃ b, wj.heap.size = b := ⟨_, rfl⟩
        have hz66 : wj.heap.size <= b66 := by rw [<- hb66]; exact ((Below.refl wj.heap.size wj)).size
        have he66 : Row (fun g => wj.heap.size <= g) 40 7 (.slice (some ⟨b66, 0, none⟩) 0 0) 0 ([] : List (List Value)).flatten wa := by
         rw [<- hwn0, <- hb66]
         exact ⟨World.ownsRow_lit wj #[] 0 (Nat.zero_le _) (by unfold maxLen; omega) rfl, fun g hg => by cases hg; exact ((Below.refl wj.heap.size wj)).size⟩
        rw [hwn0, hb66]
        have HE66 := Lib.hid he66
        refine hK _ _ (fun _ => HXS.out _ (below5 HBJ.out ha)) ?_
        clear hK K hwn0 hb66 he66
        refine twoH2 4 9 (by rfl) (by rfl) (by kernel_rfl) (fun K hK => ?_) (fun K hK => ?_)
        ·have HSZ4 : Hid (wj.heap.size <= wa.heap.size) := (ha).size
         have HRW4 := Lib.hid (HE66.out)
         gi_wp2_with (gi_at_builtin; refine append_g (fun g => wj.heap.size <= g) 40 _ 7 136 info_rrec rfl (by decide) rfl _ _ _ Tryz.underlying49 rfl _ 0 [] (by rfl) HRW4.out _ ((os.take k).map encE) (by rfl) (HTK.out _ (ha)) (by rw [List.length_map, List.length_take]; omega) (by omega) HSZ4.out ?_; intro v70 wb hrow70 hgr70)
         have hown70 : ∀ g, (Value.slice (some ⟨b66, 0, none⟩) 0 0).ownBlock = some g -> wj.heap.size <= g := fun g hg => HRW4.out.2 g hg
         have hb2 : Below wj.heap.size wj wb := (ha).grown hgr70 (ha).size hown70
         rw [List.nil_append, List.length_map, List.length_take, Nat.zero_add, Nat.min_eq_left hk] at hrow70
         have HR70 := Lib.hid hrow70
         have HGR70 := Lib.hid hgr70
         refine hK _ _ (fun _ => HXS.out _ (below5 HBJ.out hb2)) ?_
         clear hK K hrow70 hgr70 HSZ4
         refine oneH 9 (by rfl) (by kernel_rfl) (fun K hK => ?_)
         gi_wp2_with fail
         obtain ⟨wc, hwn9⟩ : ∃ W, wb.alloc (.cells #[.slice p0 n0 q0, .int .u32 (x.1.2.ttl : Int), .int .i64 x.1.2.type, .slice p1 n1 q1, .slice p2 n2 q2, .slice p3 n3 q3, .slice p4 n4 q4] 40) = W := ⟨_, rfl⟩
         have hc : Below wj.heap.size wj wc := by rw [<- hwn9]; exact (hb2).alloc (hb2).size _
         obtain ⟨b75, hb75⟩ : ∃ b, wb.heap.size = b := ⟨_, rfl⟩
         have hg75 : GRd 7 (.slice (some ⟨b75, 0, none⟩) 1 1) [encE x] wc := by
          rw [<- hwn9, <- hb75, HEX.out]
          exact GRd.new [.slice p0 n0 q0, .int .u32 (x.1.2.ttl : Int), .int .i64 x.1.2.type, .slice p1 n1 q1, .slice p2 n2 q2, .slice p3 n3 q3, .slice p4 n4 q4] rfl (by simp [Value.oneCell']) wb 40
         have ha75 : Below wb.heap.size wb wc := by rw [<- hwn9]; exact (Below.refl _ _).alloc (Nat.le_refl _) _
         have hk75 : ∃ c t f, wc.heap[b75]? = some (.cells c t f) /\ b75 + 1 = wc.heap.size := by
          rw [<- hwn9, <- hb75]; exact ⟨_, _, _, World.alloc_heap_new wb _, by simp⟩
         rw [hwn9, hb75]
         have HG75 := Lib.hid hg75
         have HA75 := Lib.hid ha75
         refine hK _ _ (fun h => absurd h (by decide)) ?_
         clear hK K hwn9 hg75 ha75
         have HSZ9 : Hid (wj.heap.size <= wc.heap.size) := (hc).size
         have HRW9 := Lib.hid (HR70.out.below HA75.out)
         have HGW9 := Lib.hid (HG75.out)
         refine oneH 10 (by rfl) (by kernel_rfl) (fun K hK => ?_)
         gi_wp2_with (gi_at_builtin; refine append_g (fun g => wj.heap.size <= g) 40 _ 7 136 info_rrec rfl (by decide) rfl _ _ _ Tryz.underlying49 rfl _ k ((os.take k).map encE) (by rfl) HRW9.out _ [encE x] (by rfl) HGW9.out (by simp; omega) (by omega) HSZ9.out ?_; intro v76 wd hrow76 hgr76)
         have hd : Below wj.heap.size wj wd := (hc).grown hgr76 (hc).size (fun g hg => HRW9.out.2 g hg)
         have HR76 := Lib.hid hrow76
         refine hK _ _ (fun _ => HXS.out _ (below5 HBJ.out hd)) ?_
         clear hK K hrow76 hgr76 HSZ9
         refine oneH 11 (by rfl) (by kernel_rfl) (fun K hK => ?_)
         gi_wp2_with fail
         refine hK _ _ (fun h => absurd h (by decide)) ?_
         clear hK K
         refine doneH (by kernel_rfl) ?_
         have hfr := HR76.out
         rw [<- List.map_singleton (f := encE), <- List.map_append] at hfr
         apply FIN b66 b75 v70 v76 wd
         exact ⟨hfr, hd⟩
        ·gi_wp2_with fail
         obtain ⟨wb, hwn9⟩ : ∃ W, wa.alloc (.cells #[.slice p0 n0 q0, .int .u32 (x.1.2.ttl : Int), .int .i64 x.1.2.type, .slice p1 n1 q1, .slice p2 n2 q2, .slice p3 n3 q3, .slice p4 n4 q4] 40) = W := ⟨_, rfl⟩
         have hb2 : Below wj.heap.size wj wb := by rw [<- hwn9]; exact (ha).alloc (ha).size _
         obtain ⟨b75, hb75⟩ : ∃ b, wa.heap.size = b := ⟨_, rfl⟩
         have hg75 : GRd 7 (.slice (some ⟨b75, 0, none⟩) 1 1) [encE x] wb := by
          rw [<- hwn9, <- hb75, HEX.out]
          exact GRd.new [.slice p0 n0 q0, .int .u32 (x.1.2.ttl : Int), .int .i64 x.1.2.type, .slice p1 n1 q1, .slice p2 n2 q2, .slice p3 n3 q3, .slice p4 n4 q4] rfl (by simp [Value.oneCell']) wa 40
         have ha75 : Below wa.heap.size wa wb := by rw [<- hwn9]; exact (Below.refl _ _).alloc (Nat.le_refl _) _
         have hk75 : ∃ c t f, wb.heap[b75]? = some (.cells c t f) /\ b75 + 1 = wb.heap.size := by
          rw [<- hwn9, <- hb75]; exact ⟨_, _, _, World.alloc_heap_new wa _, by simp⟩
         rw [hwn9, hb75]
         have HG75 := Lib.hid hg75
         have HA75 := Lib.hid ha75
         refine hK _ _ (fun h => absurd h (by decide)) ?_
         clear hK K hwn9 hg75 ha75
         have HE67 := Lib.hid (HE66.out.below HA75.out)
         have hne75 : b66 ≠ b75 := by
          obtain ⟨c, t, f, h1, h2⟩ := hk75
          have h3 := (HE66.out.1.lt b66 rfl).2
          have h4 := HA75.out.size
          omega
         refine oneH 4 (by rfl) (by kernel_rfl) (fun K hK => ?_)
         have HSZ4 : Hid (wj.heap.size <= wb.heap.size) := (hb2).size
         have HRW4 := Lib.hid (HE67.out)
         gi_wp2_with (gi_at_builtin; refine append_g (fun g => wj.heap.size <= g) 40 _ 7 136 info_rrec rfl (by decide) rfl _ _ _ Tryz.underlying49 rfl _ 0 [] (by rfl) HRW4.out _ ((os.take k).map encE) (by rfl) (HTK.out _ (hb2)) (by rw [List.length_map, List.length_take]; omega) (by omega) HSZ4.out ?_; intro v70 wc hrow70 hgr70)
         have hown70 : ∀ g, (Value.slice (some ⟨b66, 0, none⟩) 0 0).ownBlock = some g -> wj.heap.size <= g := fun g hg => HRW4.out.2 g hg
         have hc : Below wj.heap.size wj wc := (hb2).grown hgr70 (hb2).size hown70
         rw [List.nil_append, List.length_map, List.length_take, Nat.zero_add, Nat.min_eq_left hk] at hrow70
         have HR70 := Lib.hid hrow70
         have HGR70 := Lib.hid hgr70
         refine hK _ _ (fun _ => HXS.out _ (below5 HBJ.out hc)) ?_
         clear hK K hrow70 hgr70 HSZ4
         have HSZ9 : Hid (wj.heap.size <= wc.heap.size) := (hc).size
         have HRW9 := Lib.hid (HR70.out)
         have HGW9 := Lib.hid (GRd.grown75 HG75.out HGR70.out (by rintro g hg; simp only [Value.ownBlock, Option.some.injEq] at hg; omega))
         refine oneH 10 (by rfl) (by kernel_rfl) (fun K hK => ?_)
         gi_wp2_with (gi_at_builtin; refine append_g (fun g => wj.heap.size <= g) 40 _ 7 136 info_rrec rfl (by decide) rfl _ _ _ Tryz.underlying49 rfl _ k ((os.take k).map encE) (by rfl) HRW9.out _ [encE x] (by rfl) HGW9.out (by simp; omega) (by omega) HSZ9.out ?_; intro v76 wd hrow76 hgr76)
         have hd : Below wj.heap.size wj wd := (hc).grown hgr76 (hc).size (fun g hg => HRW9.out.2 g hg)
         have HR76 := Lib.hid hrow76
         refine hK _ _ (fun _ => HXS.out _ (below5 HBJ.out hd)) ?_
         clear hK K hrow76 hgr76 HSZ9
         refine oneH 11 (by rfl) (by kernel_rfl) (fun K hK => ?_)
         gi_wp2_with fail
         refine hK _ _ (fun h => absurd h (by decide)) ?_
         clear hK K
         refine doneH (by kernel_rfl) ?_
         have hfr := HR76.out
         rw [<- List.map_singleton (f := encE), <- List.map_append] at hfr
         apply FIN b66 b75 v70 v76 wd
         exact ⟨hfr, hd⟩
       ·gi_wp2_with fail
        obtain ⟨wa, hwn9⟩ : ∃ W, wj.alloc (.cells #[.slice p0 n0 q0, .int .u32 (x.1.2.ttl : Int), .int .i64 x.1.2.type, .slice p1 n1 q1, .slice p2 n2 q2, .slice p3 n3 q3, .slice p4 n4 q4] 40) = W := ⟨_, rfl⟩
        have ha : Below wj.heap.size wj wa := by rw [<- hwn9]; exact ((Below.refl wj.heap.size wj)).alloc ((Below.refl wj.heap.size wj)).size _
        obtain ⟨b75, hb75⟩ : ∃ b, wj.heap.size = b := ⟨_, rfl⟩
        have hg75 : GRd 7 (.slice (some ⟨b75, 0, none⟩) 1 1) [encE x] wa := by
         rw [<- hwn9, <- hb75, HEX.out]
         exact GRd.new [.slice p0 n0 q0, .int .u32 (x.1.2.ttl : Int), .int .i64 x.1.2.type, .slice p1 n1 q1, .slice p2 n2 q2, .slice p3 n3 q3, .slice p4 n4 q4] rfl (by simp [Value.oneCell']) wj 40
        have ha75 : Below wj.heap.size wj wa := by rw [<- hwn9]; exact (Below.refl _ _).alloc (Nat.le_refl _) _
        have hk75 : ∃ c t f, wa.heap[b75]? = some (.cells c t f) /\ b75 + 1 = wa.heap.size := by
         rw [<- hwn9, <- hb75]; exact ⟨_, _, _, World.alloc_heap_new wj _, by simp⟩
        rw [hwn9, hb75]
        have HG75 := Lib.hid hg75
        have HA75 := Lib.hid ha75
        refine hK _ _ (fun h => absurd h (by decide)) ?_
        clear hK K hwn9 hg75 ha75
        refine oneH 0 (by rfl) (by kernel_rfl) (fun K hK => ?_)
        gi_wp2_with fail
        obtain ⟨wb, hwn0⟩ : ∃ W, wa.alloc (.cells #[] 40) = W := ⟨_, rfl⟩
        have hb2 : Below wj.heap.size wj wb := by rw [<- hwn0]; exact (ha).alloc (ha).size _
        obtain ⟨b66, hb66⟩ : ∃ b, wa.heap.size = b := ⟨_, rfl⟩
        have hz66 : wj.heap.size <= b66 := by rw [<- hb66]; exact (ha).size
        have he66 : Row (fun g => wj.heap.size <= g) 40 7 (.slice (some ⟨b66, 0, none⟩) 0 0) 0 ([] : List (List Value)).flatten wb := by
         rw [<- hwn0, <- hb66]
         exact ⟨World.ownsRow_lit wa #[] 0 (Nat.zero_le _) (by unfold maxLen; omega) rfl, fun g hg => by cases hg; exact (ha).size⟩
        have hn66 : wa.heap.size = b66 := hb66
        have HA66 : Hid (Below wa.heap.size wa wb) := by show Below _ _ _; rw [<- hwn0]; exact (Below.refl _ _).alloc (Nat.le_refl _) _
        rw [hwn0, hb66]
        have HE66 := Lib.hid he66
        refine hK _ _ (fun _ => HXS.out _ (below5 HBJ.out hb2)) ?_
        clear hK K hwn0 hb66 he66
        have hne75 : b66 ≠ b75 := by
         obtain ⟨c, t, f, h1, h2⟩ := hk75
         have h3 := hn66
         omega
        refine oneH 4 (by rfl) (by kernel_rfl) (fun K hK => ?_)
        have HSZ4 : Hid (wj.heap.size <= wb.heap.size) := (hb2).size
        have HRW4 := Lib.hid (HE66.out)
        gi_wp2_with (gi_at_builtin; refine append_g (fun g => wj.heap.size <= g) 40 _ 7 136 info_rrec rfl (by decide) rfl _ _ _ Tryz.underlying49 rfl _ 0 [] (by rfl) HRW4.out _ ((os.take k).map encE) (by rfl) (HTK.out _ (hb2)) (by rw [List.length_map, List.length_take]; omega) (by omega) HSZ4.out ?_; intro v70 wc hrow70 hgr70)
        have hown70 : ∀ g, (Value.slice (some ⟨b66, 0, none⟩) 0 0).ownBlock = some g -> wj.heap.size <= g := fun g hg => HRW4.out.2 g hg
        have hc : Below wj.heap.size wj wc := (hb2).grown hgr70 (hb2).size hown70
        rw [List.nil_append, List.length_map, List.length_take, Nat.zero_add, Nat.min_eq_left hk] at hrow70
        have HR70 := Lib.hid hrow70
        have HGR70 := Lib.hid hgr70
        refine hK _ _ (fun _ => HXS.out _ (below5 HBJ.out hc)) ?_
        clear hK K hrow70 hgr70 HSZ4
        have HSZ9 : Hid (wj.heap.size <= wc.heap.size) := (hc).size
        have HRW9 := Lib.hid (HR70.out)
        have HGW9 := Lib.hid (GRd.grown75 (HG75.out.below HA66.out) HGR70.out (by rintro g hg; simp only [Value.ownBlock, Option.some.injEq] at hg; omega))
        refine oneH 10 (by rfl) (by kernel_rfl) (fun K hK => ?_)
        gi_wp2_with (gi_at_builtin; refine append_g (fun g => wj.heap.size <= g) 40 _ 7 136 info_rrec rfl (by decide) rfl _ _ _ Tryz.underlying49 rfl _ k ((os.take k).map encE) (by rfl) HRW9.out _ [encE x] (by rfl) HGW9.out (by simp; omega) (by omega) HSZ9.out ?_; intro v76 wd hrow76 hgr76)
        have hd : Below wj.heap.size wj wd := (hc).grown hgr76 (hc).size (fun g hg => HRW9.out.2 g hg)
        have HR76 := Lib.hid hrow76
        refine hK _ _ (fun _ => HXS.out _ (below5 HBJ.out hd)) ?_
        clear hK K hrow76 hgr76 HSZ9
        refine oneH 11 (by rfl) (by kernel_rfl) (fun K hK => ?_)
        gi_wp2_with fail
        refine hK _ _ (fun h => absurd h (by decide)) ?_
        clear hK K
        refine doneH (by kernel_rfl) ?_
        have hfr := HR76.out
        rw [<- List.map_singleton (f := encE), <- List.map_append] at hfr
        apply FIN b66 b75 v70 v76 wd
        exact ⟨hfr, hd⟩
      case h2 =>
       rintro b66 b75 v70 v76 W4 ⟨hr76, hb4⟩
       have HR76 := Lib.hid hr76
       have HB4 := Lib.hid (below5 HBJ.out hb4)
       have hro : GRd 7 (.slice (some ⟨g, 0, none⟩) os.length cx) (os.map encE) W4 := HGR.out.below hb4
       have HD0 := Lib.hid (fun hc => hro.drop0 k hk hc)
       have HD1 := Lib.hid (hro.drop k hk)
       have HD2 : Hid (GRd 7 (.slice (some ⟨g, k * 7, none⟩) (os.length - k) (cx - k)) ((os.map encE).drop k) W4) := by
        have h := hro.drop k hk
        rw [show (some (⟨g, 0, none⟩ : Addr)).map (·.add (k * 7)) = some ⟨g, k * 7, none⟩ by simp only [Option.map_some, Addr.add, Nat.zero_add]; split <;> simp_all] at h
        exact h
       have HZ4 : Hid (w0.heap.size <= W4.heap.size) := HB4.out.size
       have HWJ : Hid (w0.heap.size <= wj.heap.size) := HBJ.out.size
       have hdl : ((os.map encE).drop k).length = os.length - k := by rw [List.length_drop, List.length_map]
       obtain ⟨av, cw, hv76⟩ := hr76.form
       subst hv76
       clear hr76 hb4 hro
       gi_wp2_with (gi_at_builtin; refine append_g (fun g => w0.heap.size <= g) 40 _ 7 136 info_rrec rfl (by decide) rfl _ _ _ Tryz.underlying49 rfl _ (k + 1) ((os.take k ++ [x]).map encE) (by rfl) (HR76.out.mono (fun g hg => Nat.le_trans HWJ.out hg)) _ ((os.map encE).drop k) (by first | rfl) (by first | exact HD0.out (by assumption) | exact HD1.out | exact HD2.out) (by rw [hdl]; omega) (by omega) HZ4.out ?_; intro v81 w81 hrow81 hgr81; have HR81 := Lib.hid hrow81; have HG81 := Lib.hid hgr81; clear hrow81 hgr81)
       all_goals
        gi_wp2_with fail
        refine ⟨⟨i + 1, os.take k ++ x :: os.drop k, hlt, by go_num, by simp [List.length_take]; omega, ?_, ?_, ?_⟩, by simp [intOf]; omega⟩
        ·show _ = _
         rw [HIN.out, HPS.out, HPT.out]
         first | (simp [plE, List.map_take, List.map_drop]; done) | (rw [List.take_of_length_le (Nat.le_of_eq (plE_len os)), List.drop_of_length_le (Nat.le_of_eq (plE_len os)), List.take_length, List.drop_length]; simp [plE])
        ·exact HB4.out.grown HG81.out HB4.out.size (fun g hg => Nat.le_trans HWJ.out (HR76.out.2 g hg))
        ·have := HR81.out
         rw [hdl] at this
         rw [show (os.take k ++ x :: os.drop k).length = k + 1 + (os.length - k) by simp [List.length_take] <;> omega, List.flatMap_def, show (os.take k ++ x :: os.drop k).map encE = (os.take k ++ [x]).map encE ++ (os.map encE).drop k by simp [List.map_drop]]
         exact this
   ·have hkz : ¬ (k : Int) < (os.length : Int) := by omega
    obtain rfl : k = os.length := by omega
    have HPT : Hid (Rc.put x.1.2 ((plE os).drop os.length) = x.1.2 :: (plE os).drop os.length) := by
     show _ = _
     rw [List.drop_of_length_le (by rw [plE_len]; exact Nat.le_refl _)]; rfl
    gi_wp2_with fail
    refine drawnH (List.range 16) (fun _ => True) 16 rfl (by kernel_rfl) ?_
    intro wa hwa
    have HBA : Hid (Below wo.heap.size wo wa) := by subst hwa; exact HBK.out.drew
    have hS : True := trivial
    clear hwa
    refine tH 0 ?rav0 hS (fun w1 _ => ?ray0) ?_
    case ray0 => go_simp; try rfl
    refine tH 1 ?rav1 hS (fun w1 _ => ?ray1) ?_
    case ray1 => go_simp; try rfl
    refine tH 2 ?rav2 hS (fun w1 _ => ?ray2) ?_
    case ray2 => go_simp; try rfl
    refine tH 3 ?rav3 hS (fun w1 _ => ?ray3) ?_
    case ray3 => go_simp; try rfl
    refine tH 4 ?rav4 hS (fun w1 _ => ?ray4) ?_
    case ray4 => go_simp; try rfl
    simp only [Act.put, List.setIfInBounds_toArray, List.set_cons_succ, List.set_cons_zero]
    refine tU 5 hS ?_
    refine tU 6 hS ?_
    refine tU 7 hS ?_
    refine tU 8 hS ?_
    refine tU 9 hS ?_
    refine tU 10 hS ?_
    refine tU 11 hS ?_
    refine tU 12 hS ?_
    refine tU 13 hS ?_
    refine tU 14 hS ?_
    simp only [Act.put, List.setIfInBounds_toArray, List.set_cons_succ, List.set_cons_zero]
    refine tH 15 ?rav15 hS (fun w1 _ => ?ray15) ?_
    case ray15 => go_simp; try rfl
    simp only [Act.put, List.setIfInBounds_toArray, List.set_cons_succ, List.set_cons_zero]
    refine doneH (by kernel_rfl) ?_
    clear hS
    gi_wp2_with fail
    refine drawnH (List.range 15) (fun _ => True) 15 rfl (by kernel_rfl) ?_
    intro wd hwd
    have HBD : Hid (Below wo.heap.size wo wd) := by subst hwd; exact HBA.out.drew
    have hS : True := trivial
    clear hwd
    refine tH 0 ?rbv0 hS (fun w1 _ => ?rby0) ?_
    case rby0 => go_simp; try rfl
    refine tH 1 ?rbv1 hS (fun w1 _ => ?rby1) ?_
    case rby1 => go_simp; try rfl
    refine tH 2 ?rbv2 hS (fun w1 _ => ?rby2) ?_
    case rby2 => go_simp; try rfl
    refine tH 3 ?rbv3 hS (fun w1 _ => ?rby3) ?_
    case rby3 => go_simp; try rfl
    refine tH 4 ?rbv4 hS (fun w1 _ => ?rby4) ?_
    case rby4 => go_simp; try rfl
    simp only [Act.put, List.setIfInBounds_toArray, List.set_cons_succ, List.set_cons_zero]
    refine tU 5 hS ?_
    refine tU 6 hS ?_
    refine tU 7 hS ?_
    refine tU 8 hS ?_
    refine tU 9 hS ?_
    refine tU 10 hS ?_
    refine tU 11 hS ?_
    refine tU 12 hS ?_
    refine tU 13 hS ?_
    simp only [Act.put, List.setIfInBounds_toArray, List.set_cons_succ, List.set_cons_zero]
    refine tH 14 ?rbv14 hS (fun w1 _ => ?rby14) ?_
    case rby14 => go_simp; try rfl
    simp only [Act.put, List.setIfInBounds_toArray, List.set_cons_succ, List.set_cons_zero]
    refine doneH (by kernel_rfl) ?_
    clear hS
    have hkz2 : (os.length : Int) <= (cx : Int) := by omega
    gi_wp2_with fail
    refine drawnH [0, 4, 8, 10] (Cs [(e, .slice p0 n0 q0), (⟨e.block, e.off + 1, none⟩, .int .u32 (x.1.2.ttl : Int)), (⟨e.block, e.off + 2, none⟩, .int .i64 x.1.2.type), (⟨e.block, e.off + 3, none⟩, .slice p1 n1 q1), (⟨e.block, e.off + 4, none⟩, .slice p2 n2 q2), (⟨e.block, e.off + 5, none⟩, .slice p3 n3 q3), (⟨e.block, e.off + 6, none⟩, .slice p4 n4 q4)]) 12 rfl (by kernel_rfl) ?_
    intro wj hwj
    have HBJ : Hid (Below w0.heap.size w0 wj) := by subst hwj; exact (below5 HB.out HBD.out).drew
    have HRJ : Hid (Row (fun g => w0.heap.size <= g) 40 7 (.slice ox os.length cx) os.length (os.flatMap encE) wj) := by subst hwj; exact (HR.out.below HBD.out).drew
    have hS : Cs [(e, .slice p0 n0 q0), (⟨e.block, e.off + 1, none⟩, .int .u32 (x.1.2.ttl : Int)), (⟨e.block, e.off + 2, none⟩, .int .i64 x.1.2.type), (⟨e.block, e.off + 3, none⟩, .slice p1 n1 q1), (⟨e.block, e.off + 4, none⟩, .slice p2 n2 q2), (⟨e.block, e.off + 5, none⟩, .slice p3 n3 q3), (⟨e.block, e.off + 6, none⟩, .slice p4 n4 q4)] wj := HXS.out wj HBJ.out
    clear hwj
    refine tP 1 ?qAav1 (fun w1 _ => ?qAay1) ?_
    case qAay1 => go_simp; try rfl
    refine tP 2 ?qAav2 (fun w1 _ => ?qAay2) ?_
    case qAay2 => go_simp; try rfl
    refine tP 3 ?qAav3 (fun w1 _ => ?qAay3) ?_
    case qAay3 => go_simp; try rfl
    refine tP 5 ?qAav5 (fun w1 _ => ?qAay5) ?_
    case qAay5 => go_simp; try rfl
    refine tP 6 ?qAav6 (fun w1 _ => ?qAay6) ?_
    case qAay6 => go_simp; try rfl
    refine tP 7 ?qAav7 (fun w1 _ => ?qAay7) ?_
    case qAay7 => go_simp; try rfl
    simp only [Act.put, List.setIfInBounds_toArray, List.set_cons_succ, List.set_cons_zero]
    refine tH 8 ?qAav8 hS (fun w1 ⟨x0, x1, x2, x3, x4, x5, x6, _⟩ => ?qAay8) ?_
    case qAay8 => go_simp; try rfl
    simp only [Act.put, List.setIfInBounds_toArray, List.set_cons_succ, List.set_cons_zero]
    have HGR : Hid (GRd 7 (.slice ox os.length cx) (os.map encE) wj) := Row.grd (by rw [List.length_map]; exact HRJ.out) (fun c hc => by
     obtain ⟨y, _, rfl⟩ := List.mem_map.1 hc
     exact ⟨encE_len y, y.2.1.one⟩)
    have HTK : Hid (∀ W', Below wj.heap.size wj W' -> GRd 7 (.slice ox os.length cx) ((os.take os.length).map encE) W') := fun W' hW => by
     have h := HGR.out.take os.length cx (by omega) (by omega) (Nat.le_refl _) (fun h => by
      obtain ⟨⟨_, ho⟩, _⟩ := HRJ.out
      rcases ho with ⟨h1, _⟩ | ⟨g', cap', cur, h1, _⟩
      ·simp only [Value.slice.injEq] at h1; omega
      ·first | (cases h1; done) | (simp only [Value.slice.injEq] at h1; rw [h1.1] at h; cases h) | cases h)
     rw [<- List.map_take] at h
     exact h.below hW
    apply finQ (fun (_ _ : Nat) (_ v76 : Value) (W4 : World) => Row (fun g => wj.heap.size <= g) 40 7 v76 (os.length + 1) ((os.take os.length ++ [x]).map encE).flatten W4 /\ Below wj.heap.size wj W4)
    case h1 =>
     intro FIN
     refine twoH2 0 9 (by rfl) (by rfl) (by kernel_rfl) (fun K hK => ?_) (fun K hK => ?_)
     ·gi_wp2_with fail
      obtain ⟨wa, hwn0⟩ : ∃ W, wj.alloc (.cells #[] 40) = W := ⟨_, rfl⟩
      have ha : Below wj.heap.size wj wa := by rw [<- hwn0]; exact ((Below.refl wj.heap.size wj)).alloc ((Below.refl wj.heap.size wj)).size _
      obtain ⟨b66, hb66⟩ : ∃ b, wj.heap.size = b := ⟨_, rfl⟩
      have hz66 : wj.heap.size <= b66 := by rw [<- hb66]; exact ((Below.refl wj.heap.size wj)).size
      have he66 : Row (fun g => wj.heap.size <= g) 40 7 (.slice (some ⟨b66, 0, none⟩) 0 0) 0 ([] : List (List Value)).flatten wa := by
       rw [<- hwn0, <- hb66]
       exact ⟨World.ownsRow_lit wj #[] 0 (Nat.zero_le _) (by unfold maxLen; omega) rfl, fun g hg => by cases hg; exact ((Below.refl wj.heap.size wj)).size⟩
      rw [hwn0, hb66]
      have HE66 := Lib.hid he66
      refine hK _ _ (fun _ => HXS.out _ (below5 HBJ.out ha)) ?_
      clear hK K hwn0 hb66 he66
      refine twoH2 4 9 (by rfl) (by rfl) (by kernel_rfl) (fun K hK => ?_) (fun K hK => ?_)
      ·have HSZ4 : Hid (wj.heap.size <= wa.heap.size) := (ha).size
       have HRW4 := Lib.hid (HE66.out)
       gi_wp2_with (gi_at_builtin; refine append_g (fun g => wj.heap.size <= g) 40 _ 7 136 info_rrec rfl (by decide) rfl _ _ _ Tryz.underlying49 rfl _ 0 [] (by rfl) HRW4.out _ ((os.take os.length).map encE) (by rfl) (HTK.out _ (ha)) (by rw [List.length_map, List.length_take]; omega) (by omega) HSZ4.out ?_; intro v70 wb hrow70 hgr70)
       have hown70 : ∀ g, (Value.slice (some ⟨b66, 0, none⟩) 0 0).ownBlock = some g -> wj.heap.size <= g := fun g hg => HRW4.out.2 g hg
       have hb2 : Below wj.heap.size wj wb := (ha).grown hgr70 (ha).size hown70
       rw [List.nil_append, List.length_map, List.length_take, Nat.zero_add, Nat.min_eq_left hk] at hrow70
       have HR70 := Lib.hid hrow70
       have HGR70 := Lib.hid hgr70
       refine hK _ _ (fun _ => HXS.out _ (below5 HBJ.out hb2)) ?_
       clear hK K hrow70 hgr70 HSZ4
       refine oneH 9 (by rfl) (by kernel_rfl) (fun K hK => ?_)
       gi_wp2_with fail
       obtain ⟨wc, hwn9⟩ : ∃ W, wb.alloc (.cells #[.slice p0 n0 q0, .int .u32 (x.1.2.ttl : Int), .int .i64 x.1.2.type, .slice p1 n1 q1, .slice p2 n2 q2, .slice p3 n3 q3, .slice p4 n4 q4] 40) = W := ⟨_, rfl⟩
       have hc : Below wj.heap.size wj wc := by rw [<- hwn9]; exact (hb2).alloc (hb2).size _
       obtain ⟨b75, hb75⟩ : ∃ b, wb.heap.size = b := ⟨_, rfl⟩
       have hg75 : GRd 7 (.slice (some ⟨b75, 0, none⟩) 1 1) [encE x] wc := by
        rw [<- hwn9, <- hb75, HEX.out]
        exact GRd.new [.slice p0 n0 q0, .int .u32 (x.1.2.ttl : Int), .int .i64 x.1.2.type, .slice p1 n1 q1, .slice p2 n2 q2, .slice p3 n3 q3, .slice p4 n4 q4] rfl (by simp [Value.oneCell']) wb 40
       have ha75 : Below wb.heap.size wb wc := by rw [<- hwn9]; exact (Below.refl _ _).alloc (Nat.le_refl _) _
       have hk75 : ∃ c t f, wc.heap[b75]? = some (.cells c t f) /\ b75 + 1 = wc.heap.size := by
        rw [<- hwn9, <- hb75]; exact ⟨_, _, _, World.alloc_heap_new wb _, by simp⟩
       rw [hwn9, hb75]
       have HG75 := Lib.hid hg75
       have HA75 := Lib.hid ha75
       refine hK _ _ (fun h => absurd h (by decide)) ?_
       clear hK K hwn9 hg75 ha75
       have HSZ9 : Hid (wj.heap.size <= wc.heap.size) := (hc).size
       have HRW9 := Lib.hid (HR70.out.below HA75.out)
       have HGW9 := Lib.hid (HG75.out)
       refine oneH 10 (by rfl) (by kernel_rfl) (fun K hK => ?_)
       gi_wp2_with (gi_at_builtin; refine append_g (fun g => wj.heap.size <= g) 40 _ 7 136 info_rrec rfl (by decide) rfl _ _ _ Tryz.underlying49 rfl _ os.length ((os.take os.length).map encE) (by rfl) HRW9.out _ [encE x] (by rfl) HGW9.out (by simp; omega) (by omega) HSZ9.out ?_; intro v76 wd hrow76 hgr76)
       have hd : Below wj.heap.size wj wd := (hc).grown hgr76 (hc).size (fun g hg => HRW9.out.2 g hg)
       have HR76 := Lib.hid hrow76
       refine hK _ _ (fun _ => HXS.out _ (below5 HBJ.out hd)) ?_
       clear hK K hrow76 hgr76 HSZ9
       refine oneH 11 (by rfl) (by kernel_rfl) (fun K hK => ?_)
       gi_wp2_with fail
       refine hK _ _ (fun h => absurd h (by decide)) ?_
       clear hK K
       refine doneH (by kernel_rfl) ?_
       have hfr := HR76.out
       rw [<- List.map_singleton (f := encE), <- List.map_append] at hfr
       apply FIN b66 b75 v70 v76 wd
       exact ⟨hfr, hd⟩
      ·gi_wp2_with fail
       obtain ⟨wb, hwn9⟩ : ∃ W, wa.alloc (.cells #[.slice p0 n0 q0, .int .u32 (x.1.2.ttl : Int), .int .i64 x.1.2.type, .slice p1 n1 q1, .slice p2 n2 q2, .slice p3 n3 q3, .slice p4 n4 q4] 40) = W := ⟨_, rfl⟩
       have hb2 : Below wj.heap.size wj wb := by rw [<- hwn9]; exact (ha).alloc (ha).size _
       obtain ⟨b75, hb75⟩ : ∃ b, wa.heap.size = b := ⟨_, rfl⟩
       have hg75 : GRd 7 (.slice (some ⟨b75, 0, none⟩) 1 1) [encE x] wb := by
        rw [<- hwn9, <- hb75, HEX.out]
        exact GRd.new [.slice p0 n0 q0, .int .u32 (x.1.2.ttl : Int), .int .i64 x.1.2.type, .slice p1 n1 q1, .slice p2 n2 q2, .slice p3 n3 q3, .slice p4 n4 q4] rfl (by simp [Value.oneCell']) wa 40
       have ha75 : Below wa.heap.size wa wb := by rw [<- hwn9]; exact (Below.refl _ _).alloc (Nat.le_refl _) _
       have hk75 : ∃ c t f, wb.heap[b75]? = some (.cells c t f) /\ b75 + 1 = wb.heap.size := by
        rw [<- hwn9, <- hb75]; exact ⟨_, _, _, World.alloc_heap_new wa _, by simp⟩
       rw [hwn9, hb75]
       have HG75 := Lib.hid hg75
       have HA75 := Lib.hid ha75
       refine hK _ _ (fun h => absurd h (by decide)) ?_
       clear hK K hwn9 hg75 ha75
       have HE67 := Lib.hid (HE66.out.below HA75.out)
       have hne75 : b66 ≠ b75 := by
        obtain ⟨c, t, f, h1, h2⟩ := hk75
        have h3 := (HE66.out.1.lt b66 rfl).2
        have h4 := HA75.out.size
        omega
       refine oneH 4 (by rfl) (by kernel_rfl) (fun K hK => ?_)
       have HSZ4 : Hid (wj.heap.size <= wb.heap.size) := (hb2).size
       have HRW4 := Lib.hid (HE67.out)
       gi_wp2_with (gi_at_builtin; refine append_g (fun g => wj.heap.size <= g) 40 _ 7 136 info_rrec rfl (by decide) rfl _ _ _ Tryz.underlying49 rfl _ 0 [] (by rfl) HRW4.out _ ((os.take os.length).map encE) (by rfl) (HTK.out _ (hb2)) (by rw [List.length_map, List.length_take]; omega) (by omega) HSZ4.out ?_; intro v70 wc hrow70 hgr70)
       have hown70 : ∀ g, (Value.slice (some ⟨b66, 0, none⟩) 0 0).ownBlock = some g -> wj.heap.size <= g := fun g hg => HRW4.out.2 g hg
       have hc : Below wj.heap.size wj wc := (hb2).grown hgr70 (hb2).size hown70
       rw [List.nil_append, List.length_map, List.length_take, Nat.zero_add, Nat.min_eq_left hk] at hrow70
       have HR70 := Lib.hid hrow70
       have HGR70 := Lib.hid hgr70
       refine hK _ _ (fun _ => HXS.out _ (below5 HBJ.out hc)) ?_
       clear hK K hrow70 hgr70 HSZ4
       have HSZ9 : Hid (wj.heap.size <= wc.heap.size) := (hc).size
       have HRW9 := Lib.hid (HR70.out)
       have HGW9 := Lib.hid (GRd.grown75 HG75.out HGR70.out (by rintro g hg; simp only [Value.ownBlock, Option.some.injEq] at hg; omega))
       refine oneH 10 (by rfl) (by kernel_rfl) (fun K hK => ?_)
       gi_wp2_with (gi_at_builtin; refine append_g (fun g => wj.heap.size <= g) 40 _ 7 136 info_rrec rfl (by decide) rfl _ _ _ Tryz.underlying49 rfl _ os.length ((os.take os.length).map encE) (by rfl) HRW9.out _ [encE x] (by rfl) HGW9.out (by simp; omega) (by omega) HSZ9.out ?_; intro v76 wd hrow76 hgr76)
       have hd : Below wj.heap.size wj wd := (hc).grown hgr76 (hc).size (fun g hg => HRW9.out.2 g hg)
       have HR76 := Lib.hid hrow76
       refine hK _ _ (fun _ => HXS.out _ (below5 HBJ.out hd)) ?_
       clear hK K hrow76 hgr76 HSZ9
       refine oneH 11 (by rfl) (by kernel_rfl) (fun K hK => ?_)
       gi_wp2_with fail
       refine hK _ _ (fun h => absurd h (by decide)) ?_
       clear hK K
       refine doneH (by kernel_rfl) ?_
       have hfr := HR76.out
       rw [<- List.map_singleton (f := encE), <- List.map_append] at hfr
       apply FIN b66 b75 v70 v76 wd
       exact ⟨hfr, hd⟩
     ·gi_wp2_with fail
      obtain ⟨wa, hwn9⟩ : ∃ W, wj.alloc (.cells #[.slice p0 n0 q0, .int .u32 (x.1.2.ttl : Int), .int .i64 x.1.2.type, .slice p1 n1 q1, .slice p2 n2 q2, .slice p3 n3 q3, .slice p4 n4 q4] 40) = W := ⟨_, rfl⟩
      have ha : Below wj.heap.size wj wa := by rw [<- hwn9]; exact ((Below.refl wj.heap.size wj)).alloc ((Below.refl wj.heap.size wj)).size _
      obtain ⟨b75, hb75⟩ : ∃ b, wj.heap.size = b := ⟨_, rfl⟩
      have hg75 : GRd 7 (.slice (some ⟨b75, 0, none⟩) 1 1) [encE x] wa := by
       rw [<- hwn9, <- hb75, HEX.out]
       exact GRd.new [.slice p0 n0 q0, .int .u32 (x.1.2.ttl : Int), .int .i64 x.1.2.type, .slice p1 n1 q1, .slice p2 n2 q2, .slice p3 n3 q3, .slice p4 n4 q4] rfl (by simp [Value.oneCell']) wj 40
      have ha75 : Below wj.heap.size wj wa := by rw [<- hwn9]; exact (Below.refl _ _).alloc (Nat.le_refl _) _
      have hk75 : ∃ c t f, wa.heap[b75]? = some (.cells c t f) /\ b75 + 1 = wa.heap.size := by
       rw [<- hwn9, <- hb75]; exact ⟨_, _, _, World.alloc_heap_new wj _, by simp⟩
      rw [hwn9, hb75]
      have HG75 := Lib.hid hg75
      have HA75 := Lib.hid ha75
      refine hK _ _ (fun h => absurd h (by decide)) ?_
      clear hK K hwn9 hg75 ha75
      refine oneH 0 (by rfl) (by kernel_rfl) (fun K hK => ?_)
      gi_wp2_with fail
      obtain ⟨wb, hwn0⟩ : ∃ W, wa.alloc (.cells #[] 40) = W := ⟨_, rfl⟩
      have hb2 : Below wj.heap.size wj wb := by rw [<- hwn0]; exact (ha).alloc (ha).size _
      obtain ⟨b66, hb66⟩ : ∃ b, wa.heap.size = b := ⟨_, rfl⟩
      have hz66 : wj.heap.size <= b66 := by rw [<- hb66]; exact (ha).size
      have he66 : Row (fun g => wj.heap.size <= g) 40 7 (.slice (some ⟨b66, 0, none⟩) 0 0) 0 ([] : List (List Value)).flatten wb := by
       rw [<- hwn0, <- hb66]
       exact ⟨World.ownsRow_lit wa #[] 0 (Nat.zero_le _) (by unfold maxLen; omega) rfl, fun g hg => by cases hg; exact (ha).size⟩
      have hn66 : wa.heap.size = b66 := hb66
      have HA66 : Hid (Below wa.heap.size wa wb) := by show Below _ _ _; rw [<- hwn0]; exact (Below.refl _ _).alloc (Nat.le_refl _) _
      rw [hwn0, hb66]
      have HE66 := Lib.hid he66
      refine hK _ _ (fun _ => HXS.out _ (below5 HBJ.out hb2)) ?_
      clear hK K hwn0 hb66 he66
      have hne75 : b66 ≠ b75 := by
       obtain ⟨c, t, f, h1, h2⟩ := hk75
       have h3 := hn66
       omega
      refine oneH 4 (by rfl) (by kernel_rfl) (fun K hK => ?_)
      have HSZ4 : Hid (wj.heap.size <= wb.heap.size) := (hb2).size
      have HRW4 := Lib.hid (HE66.out)
      gi_wp2_with (gi_at_builtin; refine append_g (fun g => wj.heap.size <= g) 40 _ 7 136 info_rrec rfl (by decide) rfl _ _ _ Tryz.underlying49 rfl _ 0 [] (by rfl) HRW4.out _ ((os.take os.length).map encE) (by rfl) (HTK.out _ (hb2)) (by rw [List.length_map, List.length_take]; omega) (by omega) HSZ4.out ?_; intro v70 wc hrow70 hgr70)
      have hown70 : ∀ g, (Value.slice (some ⟨b66, 0, none⟩) 0 0).ownBlock = some g -> wj.heap.size <= g := fun g hg => HRW4.out.2 g hg
      have hc : Below wj.heap.size wj wc := (hb2).grown hgr70 (hb2).size hown70
      rw [List.nil_append, List.length_map, List.length_take, Nat.zero_add, Nat.min_eq_left hk] at hrow70
      have HR70 := Lib.hid hrow70
      have HGR70 := Lib.hid hgr70
      refine hK _ _ (fun _ => HXS.out _ (below5 HBJ.out hc)) ?_
      clear hK K hrow70 hgr70 HSZ4
      have HSZ9 : Hid (wj.heap.size <= wc.heap.size) := (hc).size
      have HRW9 := Lib.hid (HR70.out)
      have HGW9 := Lib.hid (GRd.grown75 (HG75.out.below HA66.out) HGR70.out (by rintro g hg; simp only [Value.ownBlock, Option.some.injEq] at hg; omega))
      refine oneH 10 (by rfl) (by kernel_rfl) (fun K hK => ?_)
      gi_wp2_with (gi_at_builtin; refine append_g (fun g => wj.heap.size <= g) 40 _ 7 136 info_rrec rfl (by decide) rfl _ _ _ Tryz.underlying49 rfl _ os.length ((os.take os.length).map encE) (by rfl) HRW9.out _ [encE x] (by rfl) HGW9.out (by simp; omega) (by omega) HSZ9.out ?_; intro v76 wd hrow76 hgr76)
      have hd : Below wj.heap.size wj wd := (hc).grown hgr76 (hc).size (fun g hg => HRW9.out.2 g hg)
      have HR76 := Lib.hid hrow76
      refine hK _ _ (fun _ => HXS.out _ (below5 HBJ.out hd)) ?_
      clear hK K hrow76 hgr76 HSZ9
      refine oneH 11 (by rfl) (by kernel_rfl) (fun K hK => ?_)
      gi_wp2_with fail
      refine hK _ _ (fun h => absurd h (by decide)) ?_
      clear hK K
      refine doneH (by kernel_rfl) ?_
      have hfr := HR76.out
      rw [<- List.map_singleton (f := encE), <- List.map_append] at hfr
      apply FIN b66 b75 v70 v76 wd
      exact ⟨hfr, hd⟩
    case h2 =>
     rintro b66 b75 v70 v76 W4 ⟨hr76, hb4⟩
     have HR76 := Lib.hid hr76
     have HB4 := Lib.hid (below5 HBJ.out hb4)
     have hro : GRd 7 (.slice ox os.length cx) (os.map encE) W4 := HGR.out.below hb4
     have HD0 := Lib.hid (fun hc => hro.drop0 os.length hk hc)
     have HD1 := Lib.hid (hro.drop os.length hk)
     have HD2 : Hid (∀ (o : Option Addr) (c : Nat), c = 0 -> GRd 7 (.slice o 0 c) ((os.map encE).drop os.length) W4) := fun o c h => by
      rw [List.drop_of_length_le (by rw [List.length_map]; exact Nat.le_refl _)]
      exact GRd.empty 7 o c h W4
     have HD3 : Hid (GRd 7 (.slice (if cx = os.length then ox else ox.map (·.add (os.length * 7))) 0 (cx - os.length)) ((os.map encE).drop os.length) W4) := by
      by_cases hc : cx = os.length
      ·rw [if_pos hc]; exact HD2.out _ _ (by omega)
      ·rw [if_neg hc]
       have h := hro.drop os.length hk
       rw [Nat.sub_self] at h
       exact h
     have HZ4 : Hid (w0.heap.size <= W4.heap.size) := HB4.out.size
     have HWJ : Hid (w0.heap.size <= wj.heap.size) := HBJ.out.size
     have hdl : ((os.map encE).drop os.length).length = os.length - os.length := by rw [List.length_drop, List.length_map]
     obtain ⟨av, cw, hv76⟩ := hr76.form
     subst hv76
     clear hr76 hb4 hro
     gi_wp2_with (gi_at_builtin; (refine append_g (fun g => w0.heap.size <= g) 40 _ 7 136 info_rrec rfl (by decide) rfl _ _ _ Tryz.underlying49 rfl _ (os.length + 1) ((os.take os.length ++ [x]).map encE) (by rfl) (HR76.out.mono (fun g hg => Nat.le_trans HWJ.out hg)) _ ((os.map encE).drop os.length) (by first | rfl) (by first | exact HD0.out (by assumption) | exact HD1.out | exact HD3.out | exact HD2.out _ _ rfl | exact HD2.out _ _ (by omega)) (by rw [hdl]; omega) (by omega) HZ4.out ?_); intro v81 w81 hrow81 hgr81; have HR81 := Lib.hid hrow81; have HG81 := Lib.hid hgr81; clear hrow81 hgr81)
     all_goals
      gi_wp2_with fail
      refine ⟨⟨i + 1, os.take os.length ++ x :: os.drop os.length, hlt, by go_num, by simp; omega, ?_, ?_, ?_⟩, by simp [intOf]; omega⟩
      ·show _ = _
       rw [HIN.out, HPS.out, HPT.out]
       first | (simp [plE]; done) | (rw [List.take_of_length_le (Nat.le_of_eq (plE_len os)), List.drop_of_length_le (Nat.le_of_eq (plE_len os)), List.take_length, List.drop_length]; simp [plE])
      ·exact HB4.out.grown HG81.out HB4.out.size (fun g hg => Nat.le_trans HWJ.out (HR76.out.2 g hg))
      ·have := HR81.out
       rw [hdl] at this
       rw [show (os.take os.length ++ x :: os.drop os.length).length = os.length + 1 + (os.length - os.length) by simp <;> omega, List.flatMap_def, show (os.take os.length ++ x :: os.drop os.length).map encE = (os.take os.length ++ [x]).map encE ++ (os.map encE).drop os.length by simp]
       exact this
end Go.Proofs.YtbgbahllhjelgaaGreatDoor
end
section
namespace Go.Proofs.YtbgbahllhjelgaaGreatDoor
open Go.RowKit Go.Shelf Go.Sort
set_option maxRecDepth 100000
theorem NmsRd.form {v : Value} {ns : List (List (List UInt8))} {W : World} (h : NmsRd v ns W) : ∃ o cap, v = .slice o ns.length cap /\ ns.length <= cap /\ cap <= 9223372036854775807 := by
 obtain ⟨us, h1, h2, h3⟩ := h
 obtain ⟨o, cap, e, h4, h5⟩ := h2.form
 exact ⟨o, cap, by rw [e, h1], by omega, by unfold maxLen at h5; exact h5⟩
set_option maxHeartbeats 1000000 in
theorem isLen_any (v u : Value) (a b : List (List UInt8)) (w : World) (hv : Rd v a w) (hu : Rd u b w) (ha : a.length <= 1000) (hb : b.length <= 1000) :
  Calls Tryz.prog 48 #[v, u] w (Gives (.bool (a == b)) w) := by
 obtain ⟨o, cap, rfl, h1, h2⟩ := hv.form
 obtain ⟨o', cap', rfl, h1', h2'⟩ := hu.form
 have HC := Lib.hid hv.cells
 have HD := Lib.hid hu.cells
 have na : (a.length : Int) <= 1000 := by omega
 have nb : (b.length : Int) <= 1000 := by omega
 clear hv hu ha hb
 have e0 : ∀ wr W : World, W.heap = wr.heap -> ∀ p, W.cell? p = wr.cell? p := fun wr W h p => by unfold World.cell?; rw [h]
 by_cases hab : a.length = b.length
 ·have hab' : ((a.length : Int) != b.length) = false := by simp [hab]
  have HAB := Lib.hid hab
  clear hab
  go_enter Tryz.func48, Tryz.ntmps48
  go_wp2
  go_loopw [5] (fun i wr => ∃ k : Nat, Nm.isTo a b k /\ i = .int .i64 k /\ Below w.heap.size w wr) (fun i _ => a.length - (intOf i).toNat)
  case atStart => exact ⟨0, ⟨by omega, fun j _ _ h => by omega⟩, rfl, Below.refl _ _⟩
  case round =>
   obtain ⟨k, hto, rfl, hb⟩ := hrel
   by_cases hlt : k < a.length
   ·have hlt' : k < b.length := by have := HAB.out; omega
    obtain ⟨x, rfl, e1⟩ := HC.out _ hb k hlt
    obtain ⟨y, rfl, e2⟩ := HD.out _ hb k hlt'
    by_cases he : a[k] = b[k]
    ·have HT := Lib.hid (hto.step hlt hlt' he)
     rw [<- he] at e2
     clear hto he
     go_wp2_with fail
     go_quiet (fail)
     go_wp2_with fail
     exact ⟨⟨k + 1, HT.out, by go_num, below_drewN hb _⟩, by simp [intOf]; omega⟩
    ·have HF := Lib.hid (Nm.is_not hlt hlt' he)
     have hs : (a[k] == b[k]) = false := by simpa using he
     clear hto he
     go_wp2_with fail
     go_quiet (fail)
     go_wp2_with fail
     go_ret
     exact ⟨by rw [HF.out]; rfl, below_drewN hb _⟩
   ·have HF := Lib.hid (hto.done hlt HAB.out)
    go_wp2
    go_ret
    exact ⟨by rw [HF.out]; rfl, hb⟩
 ·have hab' : ((a.length : Int) != b.length) = true := by simp; omega
  have HF := Lib.hid (Nm.is_len hab)
  go_enter Tryz.func48, Tryz.ntmps48
  go_wp2
  go_ret
  exact ⟨by rw [HF.out]; rfl, Below.refl _ _⟩
set_option maxHeartbeats 4000000 in
theorem lawIs_any (va vb : List Value) (r : Rc.PRec) (w : World) (ha : DatRd va r w) (hb : DatRd vb r w) (rb : RB r) :
  Calls Tryz.prog 49 #[.agg va.toArray, .agg vb.toArray] w (TrE w) := by
 obtain ⟨vn, vm, vt, vr, rfl, a1, a2, a3, a4⟩ := ha
 obtain ⟨un, um, ut, ur, rfl, b1, b2, b3, b4⟩ := hb
 obtain ⟨p1, q1, rfl, _⟩ := a1.form
 obtain ⟨p2, q2, rfl, _⟩ := a2.form
 obtain ⟨p3, q3, rfl, _⟩ := a3.form
 obtain ⟨p4, q4, rfl, _⟩ := Sl.form a4
 obtain ⟨r1, t1, rfl, _⟩ := b1.form
 obtain ⟨r2, t2, rfl, _⟩ := b2.form
 obtain ⟨r3, t3, rfl, _⟩ := b3.form
 obtain ⟨r4, t4, rfl, _⟩ := Sl.form b4
 have A1 := Lib.hid a1
 have A2 := Lib.hid a2
 have A3 := Lib.hid a3
 have A4 := Lib.hid a4
 have B1 := Lib.hid b1
 have B2 := Lib.hid b2
 have B3 := Lib.hid b3
 have B4 := Lib.hid b4
 have hlm : (numC r.nums).length = r.nums.length := by unfold numC; simp
 have hl4 : (r.raw.map fun b : UInt8 => Value.int .u8 (b.toNat : Int)).length = r.raw.length := by simp
 rw [hlm] at A2 B2 ⊢
 rw [hl4]
 have e4 : Hid (BtRd (.slice p4 r.raw.length q4) r.raw w) := by rw [<- hl4]; exact A4.out
 have f4 : Hid (BtRd (.slice r4 r.raw.length t4) r.raw w) := by rw [<- hl4]; exact B4.out
 have RBr := Lib.hid rb
 clear a1 a2 a3 a4 b1 b2 b3 b4 A4 B4 hlm hl4 rb
 obtain ⟨Wb, hWb⟩ : ∃ W, (w.alloc (.cells #[.int .i64 r.type, .slice p1 r.names.length q1, .slice p2 r.nums.length q2, .slice p3 r.texts.length q3, .slice p4 r.raw.length q4] 38)).alloc (.cells #[.int .i64 r.type, .slice r1 r.names.length t1, .slice r2 r.nums.length t2, .slice r3 r.texts.length t3, .slice r4 r.raw.length t4] 38) = W := ⟨_, rfl⟩
 have HB : Hid (Below w.heap.size w Wb) := by show Below _ _ _; rw [<- hWb]; exact ((Below.refl _ _).alloc (Nat.le_refl _) _).alloc (by simp) _
 have HA0 : Hid (Blk w.heap.size #[.int .i64 r.type, .slice p1 r.names.length q1, .slice p2 r.nums.length q2, .slice p3 r.texts.length q3, .slice p4 r.raw.length q4] 38 Wb) := by show Blk _ _ _ _; rw [<- hWb]; exact (Blk.new w _ _).alloc _
 have HB0 : Hid (Blk (w.heap.size + 1) #[.int .i64 r.type, .slice r1 r.names.length t1, .slice r2 r.nums.length t2, .slice r3 r.texts.length t3, .slice r4 r.raw.length t4] 38 Wb) := by
  show Blk _ _ _ _
  have := Blk.new (w.alloc (.cells #[.int .i64 r.type, .slice p1 r.names.length q1, .slice p2 r.nums.length q2, .slice p3 r.texts.length q3, .slice p4 r.raw.length q4] 38)) #[.int .i64 r.type, .slice r1 r.names.length t1, .slice r2 r.nums.length t2, .slice r3 r.texts.length t3, .slice r4 r.raw.length t4] 38
  rw [World.size_alloc] at this
  rw [<- hWb]; exact this
 have hca := conv_bt (e4.out.below HB.out)
 have hcb := conv_bt (f4.out.below HB.out)
 have a0 : Wb.cell? ⟨w.heap.size, 0, none⟩ = some (.int .i64 r.type) := HA0.out.cell 0
 have a1 : Wb.cell? ⟨w.heap.size, 1, none⟩ = some (.slice p1 r.names.length q1) := HA0.out.cell 1
 have a2 : Wb.cell? ⟨w.heap.size, 2, none⟩ = some (.slice p2 r.nums.length q2) := HA0.out.cell 2
 have a3 : Wb.cell? ⟨w.heap.size, 3, none⟩ = some (.slice p3 r.texts.length q3) := HA0.out.cell 3
 have a4 : Wb.cell? ⟨w.heap.size, 4, none⟩ = some (.slice p4 r.raw.length q4) := HA0.out.cell 4
 have b0 : Wb.cell? ⟨w.heap.size + 1, 0, none⟩ = some (.int .i64 r.type) := HB0.out.cell 0
 have b1 : Wb.cell? ⟨w.heap.size + 1, 1, none⟩ = some (.slice r1 r.names.length t1) := HB0.out.cell 1
 have b2 : Wb.cell? ⟨w.heap.size + 1, 2, none⟩ = some (.slice r2 r.nums.length t2) := HB0.out.cell 2
 have b3 : Wb.cell? ⟨w.heap.size + 1, 3, none⟩ = some (.slice r3 r.texts.length t3) := HB0.out.cell 3
 have b4 : Wb.cell? ⟨w.heap.size + 1, 4, none⟩ = some (.slice r4 r.raw.length t4) := HB0.out.cell 4
 refine (callsIn_wide (n := 0)).1 ?_
 refine callsIn_of_wp Tryz.func49 rfl trivial ?_ rfl
 simp only [Tryz.ntmps49, List.size_toArray, List.length_cons, List.length_nil, Nat.reduceAdd, Nat.reduceSub, Array.replicate_succ, Array.replicate_zero, List.push_toArray, List.append_toArray, List.nil_append, List.cons_append]
 gi_wp2_with fail
 clear a0 a1 a2 a3 a4 b0 b1 b2 b3 b4 hca hcb
 have RN : Hid (r.names.length <= 1000 /\ r.nums.length <= 1000) := ⟨RBr.out.names.1, RBr.out.nums.1⟩
 gi_loopw [5] (fun vi W => ∃ i : Nat, i <= r.names.length /\ vi = .int .i64 i /\ Below Wb.heap.size Wb W) (fun vi _ => r.names.length - (intOf vi).toNat)
 case atStart => exact ⟨0, Nat.zero_le _, rfl, Below.refl _ _⟩
 case round =>
  obtain ⟨i, hi, rfl, hb⟩ := hrel
  have HBW := Lib.hid hb
  have HAW := Lib.hid (HA0.out.below hb)
  have HCW := Lib.hid (HB0.out.below hb)
  have hn1 : (r.names.length : Int) <= 1000 := by have := RN.out; omega
  have hn2 : (r.nums.length : Int) <= 1000 := by have := RN.out; omega
  have a0 : wr.cell? ⟨w.heap.size, 0, none⟩ = some (.int .i64 r.type) := HAW.out.cell 0
  have a1 : wr.cell? ⟨w.heap.size, 1, none⟩ = some (.slice p1 r.names.length q1) := HAW.out.cell 1
  have a2 : wr.cell? ⟨w.heap.size, 2, none⟩ = some (.slice p2 r.nums.length q2) := HAW.out.cell 2
  have a3 : wr.cell? ⟨w.heap.size, 3, none⟩ = some (.slice p3 r.texts.length q3) := HAW.out.cell 3
  have a4 : wr.cell? ⟨w.heap.size, 4, none⟩ = some (.slice p4 r.raw.length q4) := HAW.out.cell 4
  have b0 : wr.cell? ⟨w.heap.size + 1, 0, none⟩ = some (.int .i64 r.type) := HCW.out.cell 0
  have b1 : wr.cell? ⟨w.heap.size + 1, 1, none⟩ = some (.slice r1 r.names.length t1) := HCW.out.cell 1
  have b2 : wr.cell? ⟨w.heap.size + 1, 2, none⟩ = some (.slice r2 r.nums.length t2) := HCW.out.cell 2
  have b3 : wr.cell? ⟨w.heap.size + 1, 3, none⟩ = some (.slice r3 r.texts.length t3) := HCW.out.cell 3
  have b4 : wr.cell? ⟨w.heap.size + 1, 4, none⟩ = some (.slice r4 r.raw.length t4) := HCW.out.cell 4
  clear hb
  by_cases hlt : i < r.names.length
  ·have hlz : (i : Int) < (r.names.length : Int) := by omega
   have hwb := below5 HB.out HBW.out
   have HWB := Lib.hid hwb
   obtain ⟨us, u1, u2, u3⟩ := A1.out
   obtain ⟨vs, v1, v2, v3⟩ := B1.out
   obtain ⟨ga, rfl, c1⟩ := u2.cells wr hwb i (by omega)
   obtain ⟨gb, rfl, d1⟩ := v2.cells wr hwb i (by omega)
   have hra := u3 i (by omega) hlt
   have hrb := v3 i (by omega) hlt
   obtain ⟨ya, hya⟩ : ∃ y, us[i]'(by omega) = y := ⟨_, rfl⟩
   obtain ⟨yb, hyb⟩ : ∃ y, vs[i]'(by omega) = y := ⟨_, rfl⟩
   rw [hya] at c1 hra
   rw [hyb] at d1 hrb
   obtain ⟨na, ca, rfl, _, _⟩ := hra.form
   obtain ⟨nb, cb, rfl, _, _⟩ := hrb.form
   obtain ⟨la, hla⟩ : ∃ n, r.names[i].length = n := ⟨_, rfl⟩
   rw [hla] at c1 d1 hra hrb
   obtain ⟨ea, hea⟩ : ∃ e, ga.add i = e := ⟨_, rfl⟩
   obtain ⟨eb, heb⟩ : ∃ e, gb.add i = e := ⟨_, rfl⟩
   rw [hea] at c1
   rw [heb] at d1
   have HCS : Hid (∀ W', Below wr.heap.size wr W' -> Cs [(⟨w.heap.size, 1, none⟩, Value.slice (some ga) r.names.length q1), (⟨w.heap.size + 1, 1, none⟩, .slice (some gb) r.names.length t1), (ea, .slice na la ca), (eb, .slice nb la cb)] W') := fun W' hW => ⟨(hW.cell (cell_lt a1)).trans a1, (hW.cell (cell_lt b1)).trans b1, (hW.cell (cell_lt c1)).trans c1, (hW.cell (cell_lt d1)).trans d1, trivial⟩
   have HIS : Hid (∀ W', Below wr.heap.size wr W' -> Calls Tryz.prog 48 #[.slice na la ca, .slice nb la cb] W' (Gives (.bool true) W')) := fun W' hW => by
    have := is_any _ _ r.names[i] r.names[i] W' (hra.below (below5 hwb hW)) (hrb.below (below5 hwb hW)) (RBr.out.names.2 _ (List.getElem_mem _)) (RBr.out.names.2 _ (List.getElem_mem _))
    rw [show (r.names[i] == r.names[i]) = true by simp] at this
    exact this
   clear hwb u1 u2 u3 v1 v2 v3 c1 d1 hra hrb hya hyb hla
   gi_wp2_with fail
   clear a0 a1 a2 a3 a4 b0 b1 b2 b3 b4
   refine drawnH (List.range 12) (Cs [(⟨w.heap.size, 1, none⟩, Value.slice (some ga) r.names.length q1), (⟨w.heap.size + 1, 1, none⟩, .slice (some gb) r.names.length t1), (ea, .slice na la ca), (eb, .slice nb la cb)]) 12 rfl (by kernel_rfl) ?_
   intro wa hwa
   have HWA : Hid (Below wr.heap.size wr wa) := by subst hwa; exact (Below.refl wr.heap.size wr).drew
   have hS := HCS.out wa HWA.out
   clear hwa
   refine tH 0 ?qav0 hS (fun w1 ⟨x0, x1, x2, x3, _⟩ => ?qay0) ?_
   case qay0 => go_simp; try rfl
   refine tH 1 ?qav1 hS (fun w1 ⟨x0, x1, x2, x3, _⟩ => ?qay1) ?_
   case qay1 => go_simp; try rfl
   refine tH 2 ?qav2 hS (fun w1 ⟨x0, x1, x2, x3, _⟩ => ?qay2) ?_
   case qay2 => go_simp; try rfl
   refine tH 3 ?qav3 hS (fun w1 ⟨x0, x1, x2, x3, _⟩ => ?qay3) ?_
   case qay3 => go_simp; try rfl
   refine tH 4 ?qav4 hS (fun w1 ⟨x0, x1, x2, x3, _⟩ => ?qay4) ?_
   case qay4 => go_simp; try rfl
   refine tH 5 ?qav5 hS (fun w1 ⟨x0, x1, x2, x3, _⟩ => ?qay5) ?_
   case qay5 => go_simp; try rfl
   refine tH 6 ?qav6 hS (fun w1 ⟨x0, x1, x2, x3, _⟩ => ?qay6) ?_
   case qay6 => go_simp; try rfl
   refine tH 7 ?qav7 hS (fun w1 ⟨x0, x1, x2, x3, _⟩ => ?qay7) ?_
   case qay7 => go_simp; try rfl
   simp only [Act.put, List.setIfInBounds_toArray, List.set_cons_succ, List.set_cons_zero]
   refine tH 8 ?qav8 hS (fun w1 ⟨x0, x1, x2, x3, _⟩ => ?qay8) ?_
   case qay8 => go_simp; try rfl
   refine tH 9 ?qav9 hS (fun w1 ⟨x0, x1, x2, x3, _⟩ => ?qay9) ?_
   case qay9 => go_simp; try rfl
   simp only [Act.put, List.setIfInBounds_toArray, List.set_cons_succ, List.set_cons_zero]
   refine oneH 10 (by rfl) (by kernel_rfl) (fun K hK => ?_)
   gi_wp2_with (gi_at_call 48; refine (callsIn_wide.2 (HIS.out wa HWA.out)).mono ?_; rintro e9 wb ⟨rfl, b9⟩)
   have HWB2 := Lib.hid (below5 HWA.out b9)
   replace hS := HCS.out wb HWB2.out
   refine hK _ _ (fun _ => hS) ?_
   clear hK K b9
   refine tH 11 ?qbv11 hS (fun w1 ⟨x0, x1, x2, x3, _⟩ => ?qby11) ?_
   case qby11 => go_simp; try rfl
   simp only [Act.put, List.setIfInBounds_toArray, List.set_cons_succ, List.set_cons_zero]
   refine doneH (by kernel_rfl) ?_
   clear hS
   gi_wp2_with fail
   exact ⟨⟨i + 1, hlt, by go_num, below5 HBW.out HWB2.out⟩, by simp [intOf] <;> omega⟩
  ·have hlz : ¬ ((i : Int) < (r.names.length : Int)) := by omega
   gi_wp2_with fail
   clear a0 a1 a2 a3 a4 b0 b1 b2 b3 b4
   have HBW0 := HBW
   generalize wr = wo at *
   gi_loopw [6] (fun vi W => ∃ j : Nat, j <= r.nums.length /\ vi = .int .i64 j /\ Below wo.heap.size wo W) (fun vi _ => r.nums.length - (intOf vi).toNat)
   case atStart => exact ⟨0, Nat.zero_le _, rfl, Below.refl _ _⟩
   case round =>
    obtain ⟨j, hj, rfl, hb⟩ := hrel
    have HBJ := Lib.hid (below5 HBW0.out hb)
    have HAJ := Lib.hid (HAW.out.below hb)
    have HCJ := Lib.hid (HCW.out.below hb)
    have HBO := Lib.hid hb
    have a0 : wr.cell? ⟨w.heap.size, 0, none⟩ = some (.int .i64 r.type) := HAJ.out.cell 0
    have a1 : wr.cell? ⟨w.heap.size, 1, none⟩ = some (.slice p1 r.names.length q1) := HAJ.out.cell 1
    have a2 : wr.cell? ⟨w.heap.size, 2, none⟩ = some (.slice p2 r.nums.length q2) := HAJ.out.cell 2
    have a3 : wr.cell? ⟨w.heap.size, 3, none⟩ = some (.slice p3 r.texts.length q3) := HAJ.out.cell 3
    have a4 : wr.cell? ⟨w.heap.size, 4, none⟩ = some (.slice p4 r.raw.length q4) := HAJ.out.cell 4
    have b0 : wr.cell? ⟨w.heap.size + 1, 0, none⟩ = some (.int .i64 r.type) := HCJ.out.cell 0
    have b1 : wr.cell? ⟨w.heap.size + 1, 1, none⟩ = some (.slice r1 r.names.length t1) := HCJ.out.cell 1
    have b2 : wr.cell? ⟨w.heap.size + 1, 2, none⟩ = some (.slice r2 r.nums.length t2) := HCJ.out.cell 2
    have b3 : wr.cell? ⟨w.heap.size + 1, 3, none⟩ = some (.slice r3 r.texts.length t3) := HCJ.out.cell 3
    have b4 : wr.cell? ⟨w.heap.size + 1, 4, none⟩ = some (.slice r4 r.raw.length t4) := HCJ.out.cell 4
    clear hb
    by_cases hlt2 : j < r.nums.length
    ·have hlz2 : (j : Int) < (r.nums.length : Int) := by omega
     have hwb := below5 HB.out HBJ.out
     have hnl : (numC r.nums).length = r.nums.length := by unfold numC; simp
     obtain ⟨ga, rfl, c1⟩ := A2.out.cells wr hwb j (by rw [hnl]; exact hlt2)
     obtain ⟨gb, rfl, d1⟩ := B2.out.cells wr hwb j (by rw [hnl]; exact hlt2)
     obtain ⟨y, hy⟩ : ∃ y, r.nums[j] = y := ⟨_, rfl⟩
     have hny : ∀ h, (numC r.nums)[j]'h = .int .u32 (y : Int) := fun h => by simp only [numC, List.getElem_map, hy]
     rw [hny] at c1 d1
     obtain ⟨ea, hea⟩ : ∃ e, ga.add j = e := ⟨_, rfl⟩
     obtain ⟨eb, heb⟩ : ∃ e, gb.add j = e := ⟨_, rfl⟩
     rw [hea] at c1
     rw [heb] at d1
     have HCS : Hid (∀ W', Below wr.heap.size wr W' -> Cs [(⟨w.heap.size, 2, none⟩, Value.slice (some ga) r.nums.length q2), (⟨w.heap.size + 1, 2, none⟩, .slice (some gb) r.nums.length t2), (ea, .int .u32 (y : Int)), (eb, .int .u32 (y : Int))] W') := fun W' hW => ⟨(hW.cell (cell_lt a2)).trans a2, (hW.cell (cell_lt b2)).trans b2, (hW.cell (cell_lt c1)).trans c1, (hW.cell (cell_lt d1)).trans d1, trivial⟩
     clear hwb hnl hny hy c1 d1
     gi_wp2_with fail
     clear a0 a1 a2 a3 a4 b0 b1 b2 b3 b4
     refine drawnH (List.range 11) (Cs [(⟨w.heap.size, 2, none⟩, Value.slice (some ga) r.nums.length q2), (⟨w.heap.size + 1, 2, none⟩, .slice (some gb) r.nums.length t2), (ea, .int .u32 (y : Int)), (eb, .int .u32 (y : Int))]) 11 rfl (by kernel_rfl) ?_
     intro wa hwa
     have HWA : Hid (Below wr.heap.size wr wa) := by subst hwa; exact (Below.refl wr.heap.size wr).drew
     have hS := HCS.out wa HWA.out
     clear hwa
     refine tH 0 ?qcv0 hS (fun w1 ⟨x0, x1, x2, x3, _⟩ => ?qcy0) ?_
     case qcy0 => go_simp; try rfl
     refine tH 1 ?qcv1 hS (fun w1 ⟨x0, x1, x2, x3, _⟩ => ?qcy1) ?_
     case qcy1 => go_simp; try rfl
     refine tH 2 ?qcv2 hS (fun w1 ⟨x0, x1, x2, x3, _⟩ => ?qcy2) ?_
     case qcy2 => go_simp; try rfl
     refine tH 3 ?qcv3 hS (fun w1 ⟨x0, x1, x2, x3, _⟩ => ?qcy3) ?_
     case qcy3 => go_simp; try rfl
     refine tH 4 ?qcv4 hS (fun w1 ⟨x0, x1, x2, x3, _⟩ => ?qcy4) ?_
     case qcy4 => go_simp; try rfl
     refine tH 5 ?qcv5 hS (fun w1 ⟨x0, x1, x2, x3, _⟩ => ?qcy5) ?_
     case qcy5 => go_simp; try rfl
     refine tH 6 ?qcv6 hS (fun w1 ⟨x0, x1, x2, x3, _⟩ => ?qcy6) ?_
     case qcy6 => go_simp; try rfl
     refine tH 7 ?qcv7 hS (fun w1 ⟨x0, x1, x2, x3, _⟩ => ?qcy7) ?_
     case qcy7 => go_simp; try rfl
     simp only [Act.put, List.setIfInBounds_toArray, List.set_cons_succ, List.set_cons_zero]
     refine tH 8 ?qcv8 hS (fun w1 ⟨x0, x1, x2, x3, _⟩ => ?qcy8) ?_
     case qcy8 => go_simp; try rfl
     refine tH 9 ?qcv9 hS (fun w1 ⟨x0, x1, x2, x3, _⟩ => ?qcy9) ?_
     case qcy9 => go_simp; try rfl
     refine tH 10 ?qcv10 hS (fun w1 ⟨x0, x1, x2, x3, _⟩ => ?qcy10) ?_
     case qcy10 => go_simp; try rfl
     simp only [Act.put, List.setIfInBounds_toArray, List.set_cons_succ, List.set_cons_zero]
     refine doneH (by kernel_rfl) ?_
     clear hS
     gi_wp2_with fail
     exact ⟨⟨j + 1, hlt2, by go_num, below5 HBO.out HWA.out⟩, by simp [intOf] <;> omega⟩
    ·have hlz2 : ¬ ((j : Int) < (r.nums.length : Int)) := by omega
     have HIS := Lib.hid (isLen_any _ _ r.texts r.texts wr (A3.out.below (below5 HB.out HBJ.out)) (B3.out.below (below5 HB.out HBJ.out)) RBr.out.texts RBr.out.texts)
     have hbe : (r.texts == r.texts) = true := by simp
     rw [hbe] at HIS
     clear hbe
     gi_wp2_with (gi_at_call 48; refine (callsIn_wide.2 HIS.out).mono ?_; rintro e9 wb ⟨rfl, b9⟩)
     go_ret
     exact ⟨rfl, below5 (below5 HB.out HBJ.out) b9⟩
end Go.Proofs.YtbgbahllhjelgaaGreatDoor
end
section
namespace Go.Proofs.YtbgbahllhjelgaaGreatDoor
open Go.RowKit Go.Shelf Go.Sort
set_option maxRecDepth 100000
set_option maxHeartbeats 1000000 in
theorem is5_any {w w0 : World} (v u : Value) (k k' : List (El w)) (hb0 : Below w.heap.size w w0) (hv : RecsRd v (k.map (·.1)) w0) (hu : RecsRd u (k'.map (·.1)) w0) (he : plE k = plE k') (nk : k.length <= 1000) :
  Calls Tryz.prog 20 #[v, u] w0 (TrE w0) := by
 have hlen : k'.length = k.length := by have := congrArg List.length he; rw [plE_len, plE_len] at this; exact this.symm
 obtain ⟨ov, cv, rfl⟩ : ∃ o cap, v = .slice o k.length cap := by obtain ⟨_, o, cap, h, _⟩ := hv; exact ⟨o, cap, by rw [h, List.length_map]⟩
 obtain ⟨ou, cu, rfl⟩ : ∃ o cap, u = .slice o k'.length cap := by obtain ⟨_, o, cap, h, _⟩ := hu; exact ⟨o, cap, by rw [h, List.length_map]⟩
 have HV := Lib.hid hv.el
 have HU := Lib.hid hu.el
 have HB0 := Lib.hid hb0
 have HE := Lib.hid he
 have HLN := Lib.hid hlen
 rw [hlen]
 have lz : (k.length : Int) <= 1000 := by omega
 clear hv hu hb0 he hlen
 refine (callsIn_wide (n := 0)).1 ?_
 refine callsIn_of_wp Tryz.func20 rfl trivial ?_ rfl
 simp only [Tryz.ntmps20, List.size_toArray, List.length_cons, List.length_nil, Nat.reduceAdd, Nat.reduceSub, Array.replicate_succ, Array.replicate_zero, List.push_toArray, List.append_toArray, List.nil_append, List.cons_append]
 gi_wp2_with fail
 gi_loopw [5] (fun vi W => ∃ i : Nat, i <= k.length /\ vi = .int .i64 i /\ Below w0.heap.size w0 W) (fun vi _ => k.length - (intOf vi).toNat)
 case atStart => exact ⟨0, Nat.zero_le _, rfl, Below.refl _ _⟩
 case round =>
  obtain ⟨i, hi, rfl, hb⟩ := hrel
  have HB := Lib.hid hb
  by_cases hlt : i < k.length
  ·have hlz : (i : Int) < (k.length : Int) := by omega
   have hlt' : i < k'.length := by rw [HLN.out]; exact hlt
   obtain ⟨x, hx⟩ : ∃ x, k[i] = x := ⟨_, rfl⟩
   obtain ⟨y, hy⟩ : ∃ y, k'[i] = y := ⟨_, rfl⟩
   have hxy : x.1.2 = y.1.2 := by
    have h1 : (plE k)[i]? = (plE k')[i]? := by rw [HE.out]
    rw [plE, plE, List.getElem?_map, List.getElem?_map, List.getElem?_eq_getElem hlt, List.getElem?_eq_getElem hlt', hx, hy] at h1
    exact Option.some.inj h1
   obtain ⟨p0, n0, q0, p1, n1, q1, p2, n2, q2, p3, n3, q3, p4, n4, q4, ex⟩ := x.cells
   obtain ⟨r0, m0, t0, r1, m1, t1, r2, m2, t2, r3, m3, t3, r4, m4, t4, ey⟩ := y.cells
   have hxr : RecRd [.slice p0 n0 q0, .int .u32 (x.1.2.ttl : Int), .int .i64 x.1.2.type, .slice p1 n1 q1, .slice p2 n2 q2, .slice p3 n3 q3, .slice p4 n4 q4] x.1.2 w := by have h := x.2.1; rw [show x.1.1 = _ from ex] at h; exact h
   have hyr : RecRd [.slice r0 m0 t0, .int .u32 (y.1.2.ttl : Int), .int .i64 y.1.2.type, .slice r1 m1 t1, .slice r2 m2 t2, .slice r3 m3 t3, .slice r4 m4 t4] y.1.2 w := by have h := y.2.1; rw [show y.1.1 = _ from ey] at h; exact h
   obtain ⟨ga, rfl, _⟩ := HV.out _ hb i hlt _ _ _ _ _ _ _ (by rw [hx]; exact ex)
   obtain ⟨gb, rfl, _⟩ := HU.out _ hb i hlt' _ _ _ _ _ _ _ (by rw [hy]; exact ey)
   obtain ⟨ea, hea⟩ : ∃ e, ga.add (i * 7) = e := ⟨_, rfl⟩
   obtain ⟨eb, heb⟩ : ∃ e, gb.add (i * 7) = e := ⟨_, rfl⟩
   have HCS : Hid (∀ W', Below w0.heap.size w0 W' -> Cs [(ea, Value.slice p0 n0 q0), (⟨ea.block, ea.off + 1, none⟩, .int .u32 (x.1.2.ttl : Int)), (⟨ea.block, ea.off + 2, none⟩, .int .i64 x.1.2.type), (⟨ea.block, ea.off + 3, none⟩, .slice p1 n1 q1), (⟨ea.block, ea.off + 4, none⟩, .slice p2 n2 q2), (⟨ea.block, ea.off + 5, none⟩, .slice p3 n3 q3), (⟨ea.block, ea.off + 6, none⟩, .slice p4 n4 q4), (eb, .slice r0 m0 t0), (⟨eb.block, eb.off + 1, none⟩, .int .u32 (x.1.2.ttl : Int)), (⟨eb.block, eb.off + 2, none⟩, .int .i64 x.1.2.type), (⟨eb.block, eb.off + 3, none⟩, .slice r1 m1 t1), (⟨eb.block, eb.off + 4, none⟩, .slice r2 m2 t2), (⟨eb.block, eb.off + 5, none⟩, .slice r3 m3 t3), (⟨eb.block, eb.off + 6, none⟩, .slice r4 m4 t4)] W') := fun W' hW => by
    obtain ⟨a, ha, c0, c1, c2, c3, c4, c5, c6⟩ := HV.out _ hW i hlt _ _ _ _ _ _ _ (by rw [hx]; exact ex)
    obtain ⟨b, hb, d0, d1, d2, d3, d4, d5, d6⟩ := HU.out _ hW i hlt' _ _ _ _ _ _ _ (by rw [hy]; exact ey)
    cases ha; cases hb
    rw [hea] at c0 c1 c2 c3 c4 c5 c6
    rw [heb] at d0 d1 d2 d3 d4 d5 d6
    rw [<- hxy] at d1 d2
    exact ⟨c0, c1, c2, c3, c4, c5, c6, d0, d1, d2, d3, d4, d5, d6, trivial⟩
   have HIS : Hid (∀ W', Below w0.heap.size w0 W' -> Calls Tryz.prog 48 #[.slice p0 n0 q0, .slice r0 m0 t0] W' (Gives (.bool true) W')) := fun W' hW => by
    obtain ⟨vo, ds, h1, h2, _⟩ := hxr
    obtain ⟨vo', ds', h1', h2', _⟩ := hyr
    cases h1; cases h1'
    rw [<- hxy] at h2'
    have := isLen_any _ _ _ _ W' (h2.below (below5 HB0.out hW)) (h2'.below (below5 HB0.out hW)) x.2.2.owner.1 x.2.2.owner.1
    rw [beq_self_eq_true] at this; exact this
   have HID : Hid (∀ W', Below w0.heap.size w0 W' -> Calls Tryz.prog 49 #[.agg #[.int .i64 x.1.2.type, .slice p1 n1 q1, .slice p2 n2 q2, .slice p3 n3 q3, .slice p4 n4 q4], .agg #[.int .i64 x.1.2.type, .slice r1 m1 t1, .slice r2 m2 t2, .slice r3 m3 t3, .slice r4 m4 t4]] W' (TrE W')) := fun W' hW => by
    obtain ⟨vo, ds, h1, _, h3⟩ := hxr
    obtain ⟨vo', ds', h1', _, h3'⟩ := hyr
    cases h1; cases h1'
    rw [<- hxy] at h3'
    exact lawIs_any [.int .i64 x.1.2.type, .slice p1 n1 q1, .slice p2 n2 q2, .slice p3 n3 q3, .slice p4 n4 q4] [.int .i64 x.1.2.type, .slice r1 m1 t1, .slice r2 m2 t2, .slice r3 m3 t3, .slice r4 m4 t4] x.1.2 W' (h3.below (below5 HB0.out hW)) (h3'.below (below5 HB0.out hW)) x.2.2
   obtain ⟨nt, hnt⟩ : ∃ nt, x.1.2.ttl = nt := ⟨_, rfl⟩
   obtain ⟨ny, hny⟩ : ∃ ny, x.1.2.type = ny := ⟨_, rfl⟩
   rw [hnt, hny] at HCS
   rw [hny] at HID
   clear hb hx hy ex ey hxr hyr hxy hnt hny
   gi_wp2_with fail
   refine drawnH (List.range 39) (Cs [(ea, Value.slice p0 n0 q0), (⟨ea.block, ea.off + 1, none⟩, .int .u32 (nt : Int)), (⟨ea.block, ea.off + 2, none⟩, .int .i64 ny), (⟨ea.block, ea.off + 3, none⟩, .slice p1 n1 q1), (⟨ea.block, ea.off + 4, none⟩, .slice p2 n2 q2), (⟨ea.block, ea.off + 5, none⟩, .slice p3 n3 q3), (⟨ea.block, ea.off + 6, none⟩, .slice p4 n4 q4), (eb, .slice r0 m0 t0), (⟨eb.block, eb.off + 1, none⟩, .int .u32 (nt : Int)), (⟨eb.block, eb.off + 2, none⟩, .int .i64 ny), (⟨eb.block, eb.off + 3, none⟩, .slice r1 m1 t1), (⟨eb.block, eb.off + 4, none⟩, .slice r2 m2 t2), (⟨eb.block, eb.off + 5, none⟩, .slice r3 m3 t3), (⟨eb.block, eb.off + 6, none⟩, .slice r4 m4 t4)]) 39 rfl (by kernel_rfl) ?_
   intro wa hwa
   have HWA : Hid (Below w0.heap.size w0 wa) := by subst hwa; exact HB.out.drew
   have hS := HCS.out wa HWA.out
   clear hwa
   refine tH 0 ?qav0 hS (fun w1 ⟨x0, x1, x2, x3, x4, x5, x6, y0, y1, y2, y3, y4, y5, y6, _⟩ => ?qay0) ?_
   case qay0 => (go_simp; try first | rfl | (rw [if_pos (by omega)]) | (rw [if_neg (by omega)]) | (rw [if_neg (by simp; omega)]) | (split <;> first | (exfalso; omega) | rfl))
   refine tH 1 ?qav1 hS (fun w1 ⟨x0, x1, x2, x3, x4, x5, x6, y0, y1, y2, y3, y4, y5, y6, _⟩ => ?qay1) ?_
   case qay1 => (go_simp; try first | rfl | (rw [if_pos (by omega)]) | (rw [if_neg (by omega)]) | (rw [if_neg (by simp; omega)]) | (split <;> first | (exfalso; omega) | rfl))
   refine tH 2 ?qav2 hS (fun w1 ⟨x0, x1, x2, x3, x4, x5, x6, y0, y1, y2, y3, y4, y5, y6, _⟩ => ?qay2) ?_
   case qay2 => (go_simp; try first | rfl | (rw [if_pos (by omega)]) | (rw [if_neg (by omega)]) | (rw [if_neg (by simp; omega)]) | (split <;> first | (exfalso; omega) | rfl))
   refine tH 3 ?qav3 hS (fun w1 ⟨x0, x1, x2, x3, x4, x5, x6, y0, y1, y2, y3, y4, y5, y6, _⟩ => ?qay3) ?_
   case qay3 => (go_simp; try first | rfl | (rw [if_pos (by omega)]) | (rw [if_neg (by omega)]) | (rw [if_neg (by simp; omega)]) | (split <;> first | (exfalso; omega) | rfl))
   refine tH 4 ?qav4 hS (fun w1 ⟨x0, x1, x2, x3, x4, x5, x6, y0, y1, y2, y3, y4, y5, y6, _⟩ => ?qay4) ?_
   case qay4 => (go_simp; try first | rfl | (rw [if_pos (by omega)]) | (rw [if_neg (by omega)]) | (rw [if_neg (by simp; omega)]) | (split <;> first | (exfalso; omega) | rfl))
   refine tH 5 ?qav5 hS (fun w1 ⟨x0, x1, x2, x3, x4, x5, x6, y0, y1, y2, y3, y4, y5, y6, _⟩ => ?qay5) ?_
   case qay5 => (go_simp; try first | rfl | (rw [if_pos (by omega)]) | (rw [if_neg (by omega)]) | (rw [if_neg (by simp; omega)]) | (split <;> first | (exfalso; omega) | rfl))
   refine tH 6 ?qav6 hS (fun w1 ⟨x0, x1, x2, x3, x4, x5, x6, y0, y1, y2, y3, y4, y5, y6, _⟩ => ?qay6) ?_
   case qay6 => (go_simp; try first | rfl | (rw [if_pos (by omega)]) | (rw [if_neg (by omega)]) | (rw [if_neg (by simp; omega)]) | (split <;> first | (exfalso; omega) | rfl))
   refine tH 7 ?qav7 hS (fun w1 ⟨x0, x1, x2, x3, x4, x5, x6, y0, y1, y2, y3, y4, y5, y6, _⟩ => ?qay7) ?_
   case qay7 => (go_simp; try first | rfl | (rw [if_pos (by omega)]) | (rw [if_neg (by omega)]) | (rw [if_neg (by simp; omega)]) | (split <;> first | (exfalso; omega) | rfl))
   refine tH 8 ?qav8 hS (fun w1 ⟨x0, x1, x2, x3, x4, x5, x6, y0, y1, y2, y3, y4, y5, y6, _⟩ => ?qay8) ?_
   case qay8 => (go_simp; try first | rfl | (rw [if_pos (by omega)]) | (rw [if_neg (by omega)]) | (rw [if_neg (by simp; omega)]) | (split <;> first | (exfalso; omega) | rfl))
   refine tH 9 ?qav9 hS (fun w1 ⟨x0, x1, x2, x3, x4, x5, x6, y0, y1, y2, y3, y4, y5, y6, _⟩ => ?qay9) ?_
   case qay9 => (go_simp; try first | rfl | (rw [if_pos (by omega)]) | (rw [if_neg (by omega)]) | (rw [if_neg (by simp; omega)]) | (split <;> first | (exfalso; omega) | rfl))
   simp only [Act.put, List.setIfInBounds_toArray, List.set_cons_succ, List.set_cons_zero]
   refine oneH 10 (by rfl) (by kernel_rfl) (fun K hK => ?_)
   gi_wp2_with (gi_at_call 48; refine (callsIn_wide.2 (HIS.out wa HWA.out)).mono ?_; rintro e9 wb ⟨rfl, b9⟩)
   have HWB := Lib.hid (below5 HWA.out b9)
   replace hS := HCS.out wb HWB.out
   refine hK _ _ (fun _ => hS) ?_
   clear hK K b9
   refine tH 11 ?qbv11 hS (fun w1 ⟨x0, x1, x2, x3, x4, x5, x6, y0, y1, y2, y3, y4, y5, y6, _⟩ => ?qby11) ?_
   case qby11 => (go_simp; try first | rfl | (rw [if_pos (by omega)]) | (rw [if_neg (by omega)]) | (rw [if_neg (by simp; omega)]) | (split <;> first | (exfalso; omega) | rfl))
   refine tH 12 ?qbv12 hS (fun w1 ⟨x0, x1, x2, x3, x4, x5, x6, y0, y1, y2, y3, y4, y5, y6, _⟩ => ?qby12) ?_
   case qby12 => (go_simp; try first | rfl | (rw [if_pos (by omega)]) | (rw [if_neg (by omega)]) | (rw [if_neg (by simp; omega)]) | (split <;> first | (exfalso; omega) | rfl))
   refine tH 13 ?qbv13 hS (fun w1 ⟨x0, x1, x2, x3, x4, x5, x6, y0, y1, y2, y3, y4, y5, y6, _⟩ => ?qby13) ?_
   case qby13 => (go_simp; try first | rfl | (rw [if_pos (by omega)]) | (rw [if_neg (by omega)]) | (rw [if_neg (by simp; omega)]) | (split <;> first | (exfalso; omega) | rfl))
   refine tH 14 ?qbv14 hS (fun w1 ⟨x0, x1, x2, x3, x4, x5, x6, y0, y1, y2, y3, y4, y5, y6, _⟩ => ?qby14) ?_
   case qby14 => (go_simp; try first | rfl | (rw [if_pos (by omega)]) | (rw [if_neg (by omega)]) | (rw [if_neg (by simp; omega)]) | (split <;> first | (exfalso; omega) | rfl))
   refine tH 15 ?qbv15 hS (fun w1 ⟨x0, x1, x2, x3, x4, x5, x6, y0, y1, y2, y3, y4, y5, y6, _⟩ => ?qby15) ?_
   case qby15 => (go_simp; try first | rfl | (rw [if_pos (by omega)]) | (rw [if_neg (by omega)]) | (rw [if_neg (by simp; omega)]) | (split <;> first | (exfalso; omega) | rfl))
   refine tH 16 ?qbv16 hS (fun w1 ⟨x0, x1, x2, x3, x4, x5, x6, y0, y1, y2, y3, y4, y5, y6, _⟩ => ?qby16) ?_
   case qby16 => (go_simp; try first | rfl | (rw [if_pos (by omega)]) | (rw [if_neg (by omega)]) | (rw [if_neg (by simp; omega)]) | (split <;> first | (exfalso; omega) | rfl))
   refine tH 17 ?qbv17 hS (fun w1 ⟨x0, x1, x2, x3, x4, x5, x6, y0, y1, y2, y3, y4, y5, y6, _⟩ => ?qby17) ?_
   case qby17 => (go_simp; try first | rfl | (rw [if_pos (by omega)]) | (rw [if_neg (by omega)]) | (rw [if_neg (by simp; omega)]) | (split <;> first | (exfalso; omega) | rfl))
   refine tH 18 ?qbv18 hS (fun w1 ⟨x0, x1, x2, x3, x4, x5, x6, y0, y1, y2, y3, y4, y5, y6, _⟩ => ?qby18) ?_
   case qby18 => (go_simp; try first | rfl | (rw [if_pos (by omega)]) | (rw [if_neg (by omega)]) | (rw [if_neg (by simp; omega)]) | (split <;> first | (exfalso; omega) | rfl))
   refine tH 19 ?qbv19 hS (fun w1 ⟨x0, x1, x2, x3, x4, x5, x6, y0, y1, y2, y3, y4, y5, y6, _⟩ => ?qby19) ?_
   case qby19 => (go_simp; try first | rfl | (rw [if_pos (by omega)]) | (rw [if_neg (by omega)]) | (rw [if_neg (by simp; omega)]) | (split <;> first | (exfalso; omega) | rfl))
   refine tH 20 ?qbv20 hS (fun w1 ⟨x0, x1, x2, x3, x4, x5, x6, y0, y1, y2, y3, y4, y5, y6, _⟩ => ?qby20) ?_
   case qby20 => (go_simp; try first | rfl | (rw [if_pos (by omega)]) | (rw [if_neg (by omega)]) | (rw [if_neg (by simp; omega)]) | (split <;> first | (exfalso; omega) | rfl))
   refine tH 21 ?qbv21 hS (fun w1 ⟨x0, x1, x2, x3, x4, x5, x6, y0, y1, y2, y3, y4, y5, y6, _⟩ => ?qby21) ?_
   case qby21 => (go_simp; try first | rfl | (rw [if_pos (by omega)]) | (rw [if_neg (by omega)]) | (rw [if_neg (by simp; omega)]) | (split <;> first | (exfalso; omega) | rfl))
   refine tH 22 ?qbv22 hS (fun w1 ⟨x0, x1, x2, x3, x4, x5, x6, y0, y1, y2, y3, y4, y5, y6, _⟩ => ?qby22) ?_
   case qby22 => (go_simp; try first | rfl | (rw [if_pos (by omega)]) | (rw [if_neg (by omega)]) | (rw [if_neg (by simp; omega)]) | (split <;> first | (exfalso; omega) | rfl))
   simp only [Act.put, List.setIfInBounds_toArray, List.set_cons_succ, List.set_cons_zero]
   refine tH 23 ?qbv23 hS (fun w1 ⟨x0, x1, x2, x3, x4, x5, x6, y0, y1, y2, y3, y4, y5, y6, _⟩ => ?qby23) ?_
   case qby23 => (go_simp; try first | rfl | (rw [if_pos (by omega)]) | (rw [if_neg (by omega)]) | (rw [if_neg (by simp; omega)]) | (split <;> first | (exfalso; omega) | rfl))
   refine tH 24 ?qbv24 hS (fun w1 ⟨x0, x1, x2, x3, x4, x5, x6, y0, y1, y2, y3, y4, y5, y6, _⟩ => ?qby24) ?_
   case qby24 => (go_simp; try first | rfl | (rw [if_pos (by omega)]) | (rw [if_neg (by omega)]) | (rw [if_neg (by simp; omega)]) | (split <;> first | (exfalso; omega) | rfl))
   refine tH 25 ?qbv25 hS (fun w1 ⟨x0, x1, x2, x3, x4, x5, x6, y0, y1, y2, y3, y4, y5, y6, _⟩ => ?qby25) ?_
   case qby25 => (go_simp; try first | rfl | (rw [if_pos (by omega)]) | (rw [if_neg (by omega)]) | (rw [if_neg (by simp; omega)]) | (split <;> first | (exfalso; omega) | rfl))
   refine tH 26 ?qbv26 hS (fun w1 ⟨x0, x1, x2, x3, x4, x5, x6, y0, y1, y2, y3, y4, y5, y6, _⟩ => ?qby26) ?_
   case qby26 => (go_simp; try first | rfl | (rw [if_pos (by omega)]) | (rw [if_neg (by omega)]) | (rw [if_neg (by simp; omega)]) | (split <;> first | (exfalso; omega) | rfl))
   refine tH 27 ?qbv27 hS (fun w1 ⟨x0, x1, x2, x3, x4, x5, x6, y0, y1, y2, y3, y4, y5, y6, _⟩ => ?qby27) ?_
   case qby27 => (go_simp; try first | rfl | (rw [if_pos (by omega)]) | (rw [if_neg (by omega)]) | (rw [if_neg (by simp; omega)]) | (split <;> first | (exfalso; omega) | rfl))
   refine tH 28 ?qbv28 hS (fun w1 ⟨x0, x1, x2, x3, x4, x5, x6, y0, y1, y2, y3, y4, y5, y6, _⟩ => ?qby28) ?_
   case qby28 => (go_simp; try first | rfl | (rw [if_pos (by omega)]) | (rw [if_neg (by omega)]) | (rw [if_neg (by simp; omega)]) | (split <;> first | (exfalso; omega) | rfl))
   refine tH 29 ?qbv29 hS (fun w1 ⟨x0, x1, x2, x3, x4, x5, x6, y0, y1, y2, y3, y4, y5, y6, _⟩ => ?qby29) ?_
   case qby29 => (go_simp; try first | rfl | (rw [if_pos (by omega)]) | (rw [if_neg (by omega)]) | (rw [if_neg (by simp; omega)]) | (split <;> first | (exfalso; omega) | rfl))
   refine tH 30 ?qbv30 hS (fun w1 ⟨x0, x1, x2, x3, x4, x5, x6, y0, y1, y2, y3, y4, y5, y6, _⟩ => ?qby30) ?_
   case qby30 => (go_simp; try first | rfl | (rw [if_pos (by omega)]) | (rw [if_neg (by omega)]) | (rw [if_neg (by simp; omega)]) | (split <;> first | (exfalso; omega) | rfl))
   refine tH 31 ?qbv31 hS (fun w1 ⟨x0, x1, x2, x3, x4, x5, x6, y0, y1, y2, y3, y4, y5, y6, _⟩ => ?qby31) ?_
   case qby31 => (go_simp; try first | rfl | (rw [if_pos (by omega)]) | (rw [if_neg (by omega)]) | (rw [if_neg (by simp; omega)]) | (split <;> first | (exfalso; omega) | rfl))
   refine tH 32 ?qbv32 hS (fun w1 ⟨x0, x1, x2, x3, x4, x5, x6, y0, y1, y2, y3, y4, y5, y6, _⟩ => ?qby32) ?_
   case qby32 => (go_simp; try first | rfl | (rw [if_pos (by omega)]) | (rw [if_neg (by omega)]) | (rw [if_neg (by simp; omega)]) | (split <;> first | (exfalso; omega) | rfl))
   refine tH 33 ?qbv33 hS (fun w1 ⟨x0, x1, x2, x3, x4, x5, x6, y0, y1, y2, y3, y4, y5, y6, _⟩ => ?qby33) ?_
   case qby33 => (go_simp; try first | rfl | (rw [if_pos (by omega)]) | (rw [if_neg (by omega)]) | (rw [if_neg (by simp; omega)]) | (split <;> first | (exfalso; omega) | rfl))
   refine tH 34 ?qbv34 hS (fun w1 ⟨x0, x1, x2, x3, x4, x5, x6, y0, y1, y2, y3, y4, y5, y6, _⟩ => ?qby34) ?_
   case qby34 => (go_simp; try first | rfl | (rw [if_pos (by omega)]) | (rw [if_neg (by omega)]) | (rw [if_neg (by simp; omega)]) | (split <;> first | (exfalso; omega) | rfl))
   refine tH 35 ?qbv35 hS (fun w1 ⟨x0, x1, x2, x3, x4, x5, x6, y0, y1, y2, y3, y4, y5, y6, _⟩ => ?qby35) ?_
   case qby35 => (go_simp; try first | rfl | (rw [if_pos (by omega)]) | (rw [if_neg (by omega)]) | (rw [if_neg (by simp; omega)]) | (split <;> first | (exfalso; omega) | rfl))
   simp only [Act.put, List.setIfInBounds_toArray, List.set_cons_succ, List.set_cons_zero]
   refine oneH 36 (by rfl) (by kernel_rfl) (fun K hK => ?_)
   gi_wp2_with (gi_at_call 49; refine (callsIn_wide.2 (HID.out wb HWB.out)).mono ?_; rintro e9 wc ⟨rfl, b9⟩)
   have HWC := Lib.hid (below5 HWB.out b9)
   replace hS := HCS.out wc HWC.out
   refine hK _ _ (fun _ => hS) ?_
   clear hK K b9
   refine tH 37 ?qcv37 hS (fun w1 ⟨x0, x1, x2, x3, x4, x5, x6, y0, y1, y2, y3, y4, y5, y6, _⟩ => ?qcy37) ?_
   case qcy37 => (go_simp; try first | rfl | (rw [if_pos (by omega)]) | (rw [if_neg (by omega)]) | (rw [if_neg (by simp; omega)]) | (split <;> first | (exfalso; omega) | rfl))
   refine tH 38 ?qcv38 hS (fun w1 ⟨x0, x1, x2, x3, x4, x5, x6, y0, y1, y2, y3, y4, y5, y6, _⟩ => ?qcy38) ?_
   case qcy38 => (go_simp; try first | rfl | (rw [if_pos (by omega)]) | (rw [if_neg (by omega)]) | (rw [if_neg (by simp; omega)]) | (split <;> first | (exfalso; omega) | rfl))
   simp only [Act.put, List.setIfInBounds_toArray, List.set_cons_succ, List.set_cons_zero]
   refine doneH (by kernel_rfl) ?_
   clear hS
   gi_wp2_with fail
   exact ⟨⟨i + 1, hlt, by go_num, HWC.out⟩, by simp [intOf] <;> omega⟩
  ·have hlz : ¬ ((i : Int) < (k.length : Int)) := by omega
   clear hb
   gi_wp2_with fail
   go_ret
   exact ⟨rfl, HB.out⟩
end Go.Proofs.YtbgbahllhjelgaaGreatDoor
end
