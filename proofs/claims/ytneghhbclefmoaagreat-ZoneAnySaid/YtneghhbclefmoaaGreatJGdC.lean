/- Records as the document's; what may be. -/
import Derived.Test.YtneghhbclefmoaaGreatJGdB
namespace Go.Proofs.YtneghhbclefmoaaGreat
open Go.RowKit Go.Shelf Go.Sort
set_option maxRecDepth 100000

def Sv (B : Nat) (c0 c1 c2 c3 c4 c5 c6 : Value) (W : World) : Prop := W.cell? ⟨B, 0, none⟩ = some c0 ∧ W.cell? ⟨B, 1, none⟩ = some c1 ∧ W.cell? ⟨B, 2, none⟩ = some c2 ∧ W.cell? ⟨B, 3, none⟩ = some c3 ∧ W.cell? ⟨B, 4, none⟩ = some c4 ∧ W.cell? ⟨B, 5, none⟩ = some c5 ∧ W.cell? ⟨B, 6, none⟩ = some c6
theorem Sv.of {B : Nat} {c0 c1 c2 c3 c4 c5 c6 : Value} {t : TypeId} {W : World} (h : Blk B #[c0, c1, c2, c3, c4, c5, c6] t W) : Sv B c0 c1 c2 c3 c4 c5 c6 W := ⟨h.cell 0, h.cell 1, h.cell 2, h.cell 3, h.cell 4, h.cell 5, h.cell 6⟩
theorem DatRd.cells {ds : List Value} {r : Rc.PRec} {W : World} (h : DatRd ds r W) : ∃ p1 n1 q1 p2 n2 q2 p3 n3 q3 p4 n4 q4, ds = [.int .i64 r.type, .slice p1 n1 q1, .slice p2 n2 q2, .slice p3 n3 q3, .slice p4 n4 q4] := by
  obtain ⟨vn, vm, vt, vr, rfl, ⟨us, _, ⟨p1, q1, rfl, _⟩, _⟩, ⟨p2, q2, rfl, _⟩, ⟨p3, q3, rfl, _⟩, ⟨p4, q4, rfl, _⟩⟩ := h
  exact ⟨_, _, _, _, _, _, _, _, _, _, _, _, rfl⟩
set_option maxHeartbeats 2000000 in
theorem of5_any (vs : List Value) (r : Rc.PRec) (w0 : World) (h : RecRd vs r w0) (hn : r.names.length ≤ 1000) :
    Calls Tryz.prog 50 #[.agg vs.toArray] w0 fun e w' => ∃ vs', e = .returned (.agg vs'.toArray) ∧ RecRd vs' r w' ∧ Below w0.heap.size w0 w' := by
  obtain ⟨p0, n0, q0, p1, n1, q1, p2, n2, q2, p3, n3, q3, p4, n4, q4, rfl, hro, hrd⟩ := h.cells
  obtain ⟨W2, hW2⟩ : ∃ W2, (w0.alloc (.cells #[.slice p0 n0 q0, .int .u32 (r.ttl : Int), .int .i64 r.type, .slice p1 n1 q1, .slice p2 n2 q2, .slice p3 n3 q3, .slice p4 n4 q4] 90)).alloc (.cells #[.slice none 0 0, .int .u32 0, .int .i64 0, .slice none 0 0, .slice none 0 0, .slice none 0 0, .slice none 0 0] 101) = W2 := ⟨_, rfl⟩
  have hb2 : Below w0.heap.size w0 W2 := by subst hW2; exact ((Below.refl _ _).alloc (Nat.le_refl _) _).alloc (by simp) _
  have k0 : Blk w0.heap.size #[.slice p0 n0 q0, .int .u32 (r.ttl : Int), .int .i64 r.type, .slice p1 n1 q1, .slice p2 n2 q2, .slice p3 n3 q3, .slice p4 n4 q4] 90 W2 := by subst hW2; exact (Blk.new w0 _ _).alloc _
  have k1 : Blk (w0.heap.size + 1) #[.slice none 0 0, .int .u32 0, .int .i64 0, .slice none 0 0, .slice none 0 0, .slice none 0 0, .slice none 0 0] 101 W2 := by
    subst hW2
    have := Blk.new (w0.alloc (.cells #[.slice p0 n0 q0, .int .u32 (r.ttl : Int), .int .i64 r.type, .slice p1 n1 q1, .slice p2 n2 q2, .slice p3 n3 q3, .slice p4 n4 q4] 90)) #[.slice none 0 0, .int .u32 0, .int .i64 0, .slice none 0 0, .slice none 0 0, .slice none 0 0, .slice none 0 0] 101
    rwa [World.size_alloc] at this
  have HB := Lib.hid hb2
  have K1 := Lib.hid k1
  have HRO := Lib.hid hro
  have HRD := Lib.hid hrd
  obtain ⟨vn', vm', vt', vr', he, ⟨us, hul, hs1, hs2⟩, h2', h3', h4'⟩ := hrd
  cases he
  have HC := Lib.hid (fun w' (hw : Below w0.heap.size w0 w') => of4_any (.slice p1 n1 q1) (.slice p2 n2 q2) (.slice p3 n3 q3) (.slice p4 n4 q4) us r.type w' (hs1.below hw) (fun u hu => by
    obtain ⟨i, hi, rfl⟩ := List.mem_iff_getElem.1 hu
    obtain ⟨o, c, h, _⟩ := (hs2 i hi (by omega)).form
    exact ⟨_, _, _, h⟩) ⟨_, _, _, rfl⟩ ⟨_, _, _, rfl⟩ ⟨_, _, _, rfl⟩ (by omega))
  have HU := Lib.hid hs2
  have HDR := Lib.hid (And.intro h2' (And.intro h3' h4'))
  have hSr := Sv.of k0
  have K0 := Lib.hid k0
  obtain ⟨m1, hm1⟩ : ∃ m1, us.length = m1 := ⟨_, rfl⟩
  rw [hm1] at HC
  have HUL := Lib.hid (And.intro hul hm1)
  clear hro h k0 k1 hb2 hs1 hs2 h2' h3' h4' hul hm1 HRD
  refine (callsIn_wide (n := 0)).1 ?_
  refine callsIn_of_wp Tryz.func50 rfl trivial ?_ rfl
  simp only [Tryz.ntmps50, List.size_toArray, List.length_cons, List.length_nil, Nat.reduceAdd, Nat.reduceSub, Array.replicate_succ, Array.replicate_zero, List.push_toArray, List.append_toArray, List.nil_append, List.cons_append]
  gi_wp2_with fail
  refine drawnH [0, 1, 2, 3, 4, 5, 6, 7] (Sv w0.heap.size (.slice p0 n0 q0) (.int .u32 (r.ttl : Int)) (.int .i64 r.type) (.slice p1 n1 q1) (.slice p2 n2 q2) (.slice p3 n3 q3) (.slice p4 n4 q4)) 9 rfl (by kernel_rfl) ?_
  intro w3 hw3
  have hS : Sv w0.heap.size (.slice p0 n0 q0) (.int .u32 (r.ttl : Int)) (.int .i64 r.type) (.slice p1 n1 q1) (.slice p2 n2 q2) (.slice p3 n3 q3) (.slice p4 n4 q4) w3 := by subst hw3; exact hSr
  have hb3 : Below W2.heap.size W2 w3 := by subst hw3; exact (Below.refl _ _).drew
  clear hw3 hSr hW2
  refine takeH 0 (v := ?qv0) (fun _ => trivial) (by rfl) (by kernel_rfl) hS (.inl ⟨by kernel_rfl, fun w1 ⟨g0, g1, g2, g3, g4, g5, g6⟩ => ?qy0⟩) ?_
  case qy0 => (go_simp; try first | rfl | (rw [if_pos (by omega)]) | (rw [if_neg (by omega)]) | (rw [if_neg (by simp; omega)]) | (split <;> first | (exfalso; omega) | rfl))
  refine takeH 2 (v := ?qv2) (fun _ => trivial) (by rfl) (by kernel_rfl) hS (.inl ⟨by kernel_rfl, fun w1 ⟨g0, g1, g2, g3, g4, g5, g6⟩ => ?qy2⟩) ?_
  case qy2 => (go_simp; try first | rfl | (rw [if_pos (by omega)]) | (rw [if_neg (by omega)]) | (rw [if_neg (by simp; omega)]) | (split <;> first | (exfalso; omega) | rfl))
  refine takeH 4 (v := ?qv4) (fun _ => trivial) (by rfl) (by kernel_rfl) hS (.inl ⟨by kernel_rfl, fun w1 ⟨g0, g1, g2, g3, g4, g5, g6⟩ => ?qy4⟩) ?_
  case qy4 => (go_simp; try first | rfl | (rw [if_pos (by omega)]) | (rw [if_neg (by omega)]) | (rw [if_neg (by simp; omega)]) | (split <;> first | (exfalso; omega) | rfl))
  refine takeH 1 (v := ?qv1) (fun _ => trivial) (by rfl) (by kernel_rfl) hS (.inl ⟨by kernel_rfl, fun w1 ⟨g0, g1, g2, g3, g4, g5, g6⟩ => ?qy1⟩) ?_
  case qy1 => (go_simp; try first | rfl | (rw [if_pos (by omega)]) | (rw [if_neg (by omega)]) | (rw [if_neg (by simp; omega)]) | (split <;> first | (exfalso; omega) | rfl))
  refine takeH 3 (v := ?qv3) (fun _ => trivial) (by rfl) (by kernel_rfl) hS (.inl ⟨by kernel_rfl, fun w1 ⟨g0, g1, g2, g3, g4, g5, g6⟩ => ?qy3⟩) ?_
  case qy3 => (go_simp; try first | rfl | (rw [if_pos (by omega)]) | (rw [if_neg (by omega)]) | (rw [if_neg (by simp; omega)]) | (split <;> first | (exfalso; omega) | rfl))
  refine takeH 5 (v := ?qv5) (fun _ => trivial) (by rfl) (by kernel_rfl) hS (.inl ⟨by kernel_rfl, fun w1 ⟨g0, g1, g2, g3, g4, g5, g6⟩ => ?qy5⟩) ?_
  case qy5 => (go_simp; try first | rfl | (rw [if_pos (by omega)]) | (rw [if_neg (by omega)]) | (rw [if_neg (by simp; omega)]) | (split <;> first | (exfalso; omega) | rfl))
  simp only [Act.put, List.setIfInBounds_toArray, List.set_cons_succ, List.set_cons_zero]
  have hbs3 := hb3.size
  have HC3 := Lib.hid (HC.out _ (below5 HB.out hb3))
  refine oneH 6 (by rfl) (by kernel_rfl) (fun K hK => ?_)
  gi_wp2_with (gi_at_call 65; refine (callsIn_wide.2 HC3.out).mono ?_; rintro e w4 ⟨r1, t1, rfl, hrow4, b4⟩)
  have hb4 := below5 hb3 b4
  have hS4 : Sv w0.heap.size (.slice p0 n0 q0) (.int .u32 (r.ttl : Int)) (.int .i64 r.type) (.slice p1 n1 q1) (.slice p2 n2 q2) (.slice p3 n3 q3) (.slice p4 n4 q4) w4 := Sv.of (K0.out.below hb4)
  refine hK _ _ (fun _ => hS4) ?_
  clear hK K hS hb3 b4
  have hS := hS4
  clear hS4
  refine takeH 7 (v := ?qv7) (fun _ => trivial) (by rfl) (by kernel_rfl) hS (.inl ⟨by kernel_rfl, fun w1 ⟨g0, g1, g2, g3, g4, g5, g6⟩ => ?qy7⟩) ?_
  case qy7 => (go_simp; try first | rfl | (rw [if_pos (by omega)]) | (rw [if_neg (by omega)]) | (rw [if_neg (by simp; omega)]) | (split <;> first | (exfalso; omega) | rfl))
  simp only [Act.put, List.setIfInBounds_toArray, List.set_cons_succ, List.set_cons_zero]
  have k1 := K1.out.below hb4
  have a0 : w4.cell? ⟨w0.heap.size + 1, 0, none⟩ = some _ := k1.cell 0
  have a1 : w4.cell? ⟨w0.heap.size + 1, 1, none⟩ = some _ := k1.cell 1
  have a2 : w4.cell? ⟨w0.heap.size + 1, 2, none⟩ = some _ := k1.cell 2
  have a3 : w4.cell? ⟨w0.heap.size + 1, 3, none⟩ = some _ := k1.cell 3
  have a4 : w4.cell? ⟨w0.heap.size + 1, 4, none⟩ = some _ := k1.cell 4
  have a5 : w4.cell? ⟨w0.heap.size + 1, 5, none⟩ = some _ := k1.cell 5
  have a6 : w4.cell? ⟨w0.heap.size + 1, 6, none⟩ = some _ := k1.cell 6
  have f0 := k1.frozen 0
  have f1 := k1.frozen 1
  have f2 := k1.frozen 2
  have f3 := k1.frozen 3
  have f4 := k1.frozen 4
  have f5 := k1.frozen 5
  have f6 := k1.frozen 6
  obtain ⟨We, hWe⟩ : ∃ We, ((((((w4.setCell ⟨w0.heap.size + 1, 0, none⟩ (.slice p0 n0 q0)).setCell ⟨w0.heap.size + 1, 1, none⟩ (.int .u32 (r.ttl : Int))).setCell ⟨w0.heap.size + 1, 2, none⟩ (.int .i64 r.type)).setCell ⟨w0.heap.size + 1, 3, none⟩ (.slice r1 m1 t1)).setCell ⟨w0.heap.size + 1, 4, none⟩ (.slice p2 n2 q2)).setCell ⟨w0.heap.size + 1, 5, none⟩ (.slice p3 n3 q3)).setCell ⟨w0.heap.size + 1, 6, none⟩ (.slice p4 n4 q4) = We := ⟨_, rfl⟩
  have ke : Blk (w0.heap.size + 1) #[.slice p0 n0 q0, .int .u32 (r.ttl : Int), .int .i64 r.type, .slice r1 m1 t1, .slice p2 n2 q2, .slice p3 n3 q3, .slice p4 n4 q4] 101 We := by
    subst hWe; exact ((((((k1.setAt 0 _).setAt 1 _).setAt 2 _).setAt 3 _).setAt 4 _).setAt 5 _).setAt 6 _
  have hbe : Below w0.heap.size w0 We := by
    subst hWe
    exact (((((((below5 HB.out hb4).setCell (p := ⟨w0.heap.size + 1, 0, none⟩) (by simp) _).setCell (p := ⟨w0.heap.size + 1, 1, none⟩) (by simp) _).setCell (p := ⟨w0.heap.size + 1, 2, none⟩) (by simp) _).setCell (p := ⟨w0.heap.size + 1, 3, none⟩) (by simp) _).setCell (p := ⟨w0.heap.size + 1, 4, none⟩) (by simp) _).setCell (p := ⟨w0.heap.size + 1, 5, none⟩) (by simp) _).setCell (p := ⟨w0.heap.size + 1, 6, none⟩) (by simp) _
  have hrowe : Row (fun g => w3.heap.size + 3 ≤ g) 22 1 (.slice r1 m1 t1) m1 us We := by
    have hlt : w0.heap.size + 1 < w3.heap.size := by
      have h1 := K1.out.lt; have h2 := hbs3; omega
    subst hWe
    exact ((((((hrow4.setOther (fun h => by omega) _).setOther (fun h => by omega) _).setOther (fun h => by omega) _).setOther (fun h => by omega) _).setOther (fun h => by omega) _).setOther (fun h => by omega) _).setOther (fun h => by omega) _
  have KE := Lib.hid ke
  have HBE := Lib.hid hbe
  have HRE := Lib.hid hrowe
  clear ke hbe hrowe hrow4 k1
  refine oneH 8 (by rfl) (by kernel_rfl) (fun K hK => ?_)
  gi_wp2_with fail
  refine hK _ _ (fun h => absurd h (by decide)) ?_
  clear hK K hS
  refine doneH (by kernel_rfl) ?_
  have e0 : We.cell? ⟨w0.heap.size + 1, 0, none⟩ = some _ := KE.out.cell 0
  have e1 : We.cell? ⟨w0.heap.size + 1, 1, none⟩ = some _ := KE.out.cell 1
  have e2 : We.cell? ⟨w0.heap.size + 1, 2, none⟩ = some _ := KE.out.cell 2
  have e3 : We.cell? ⟨w0.heap.size + 1, 3, none⟩ = some _ := KE.out.cell 3
  have e4 : We.cell? ⟨w0.heap.size + 1, 4, none⟩ = some _ := KE.out.cell 4
  have e5 : We.cell? ⟨w0.heap.size + 1, 5, none⟩ = some _ := KE.out.cell 5
  have e6 : We.cell? ⟨w0.heap.size + 1, 6, none⟩ = some _ := KE.out.cell 6
  gi_wp2_with fail
  refine bodyPost_ret (v := .agg #[.slice p0 n0 q0, .int .u32 (r.ttl : Int), .int .i64 r.type, .slice r1 m1 t1, .slice p2 n2 q2, .slice p3 n3 q3, .slice p4 n4 q4]) (by simp at e0 e1 e2 e3 e4 e5 e6; simp [results, Tryz.results50, go_sem, e0, e1, e2, e3, e4, e5, e6]) rfl ?_
  have hbE := HBE.out
  obtain ⟨hul, hm1⟩ := HUL.out
  have hsl : Sl (.slice r1 m1 t1) us We := by
    have h := HRE.out
    rw [← hm1] at h ⊢
    exact h.sl
  obtain ⟨h2, h3, h4⟩ := HDR.out
  exact ⟨[.slice p0 n0 q0, .int .u32 (r.ttl : Int), .int .i64 r.type, .slice r1 m1 t1, .slice p2 n2 q2, .slice p3 n3 q3, .slice p4 n4 q4], rfl, ⟨_, _, rfl, HRO.out.below hbE, _, _, _, _, rfl, ⟨us, hul, hsl, fun i h h' => (HU.out i h h').below hbE⟩, h2.below hbE, h3.below hbE, Sl.below h4 hbE⟩, hbE⟩
end Go.Proofs.YtneghhbclefmoaaGreat
