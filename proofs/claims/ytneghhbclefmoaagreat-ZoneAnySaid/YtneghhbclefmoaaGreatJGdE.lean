/- What the reference asks of a record; what may be, and is short. -/
import Derived.Test.YtneghhbclefmoaaGreatJGdD
namespace Go.Proofs.YtneghhbclefmoaaGreat
open Go.RowKit Go.Shelf Go.Sort
set_option maxRecDepth 100000

set_option maxHeartbeats 1000000 in
theorem checkRec_any (vs : List Value) (r : Rc.PRec) (w0 : World) (h : RecRd vs r w0) (ho : NB r.owner) (hf : DF r) :
    Calls Tryz.prog 96 #[.agg vs.toArray] w0 (Ints w0) := by
  obtain ⟨p0, n0, q0, p1, n1, q1, p2, n2, q2, p3, n3, q3, p4, n4, q4, rfl, hro, hrd⟩ := h.cells
  obtain ⟨tt, htt⟩ : ∃ tt, r.ttl = tt := ⟨_, rfl⟩
  rw [htt]
  obtain ⟨W1, hW1⟩ : ∃ W1, w0.alloc (.cells #[.slice p0 n0 q0, .int .u32 (tt : Int), .int .i64 r.type, .slice p1 n1 q1, .slice p2 n2 q2, .slice p3 n3 q3, .slice p4 n4 q4] 101) = W1 := ⟨_, rfl⟩
  have hb1 : Below w0.heap.size w0 W1 := by subst hW1; exact (Below.refl _ _).alloc (Nat.le_refl _) _
  have k0 : Blk w0.heap.size #[.slice p0 n0 q0, .int .u32 (tt : Int), .int .i64 r.type, .slice p1 n1 q1, .slice p2 n2 q2, .slice p3 n3 q3, .slice p4 n4 q4] 101 W1 := by subst hW1; exact Blk.new w0 _ _
  have d0 : W1.cell? ⟨w0.heap.size, 0, none⟩ = some _ := k0.cell 0
  have K0 := Lib.hid k0
  have HB := Lib.hid hb1
  have HN := Lib.hid (refCheckName_any _ _ _ (hro.below hb1) ho)
  have HD := Lib.hid (fun w' (hw : Below w0.heap.size w0 w') => checkData_any _ r w' (hrd.below hw) hf)
  obtain ⟨z, hz⟩ : ∃ z, Nm.check r.owner = z := ⟨_, rfl⟩
  rw [hz] at HN
  clear hro hrd h k0 hb1 hz hf ho
  by_cases hz0 : z = 0
  · subst hz0
    by_cases ht : 2147483647 < tt
    · have ht1 : (2147483647 : Int) < (tt : Int) := by omega
      have ht2 : decide ((2147483647 : Int) < (tt : Int)) = true := by simp; omega
      have ht3 : decide (2147483647 < tt) = true := by simp; omega
      go_enter Tryz.func96, Tryz.ntmps96
      go_wp2_with fail
      refine HN.out.mono ?_
      rintro e w2 ⟨rfl, b2⟩
      have e1 : w2.cell? ⟨w0.heap.size, 1, none⟩ = some _ := (K0.out.below b2).cell 1
      have HB2 := Lib.hid (below5 HB.out b2)
      clear b2
      go_wp2_with fail
      go_ret
      exact ⟨_, rfl, HB2.out⟩
    · have ht1 : ¬ (2147483647 : Int) < (tt : Int) := by omega
      have ht2 : decide ((2147483647 : Int) < (tt : Int)) = false := by simp; omega
      have ht3 : decide (2147483647 < tt) = false := by simp; omega
      go_enter Tryz.func96, Tryz.ntmps96
      go_wp2_with fail
      refine HN.out.mono ?_
      rintro e w2 ⟨rfl, b2⟩
      have e1 : w2.cell? ⟨w0.heap.size, 1, none⟩ = some _ := (K0.out.below b2).cell 1
      have e2 : w2.cell? ⟨w0.heap.size, 2, none⟩ = some _ := (K0.out.below b2).cell 2
      have e3 : w2.cell? ⟨w0.heap.size, 3, none⟩ = some _ := (K0.out.below b2).cell 3
      have e4 : w2.cell? ⟨w0.heap.size, 4, none⟩ = some _ := (K0.out.below b2).cell 4
      have e5 : w2.cell? ⟨w0.heap.size, 5, none⟩ = some _ := (K0.out.below b2).cell 5
      have e6 : w2.cell? ⟨w0.heap.size, 6, none⟩ = some _ := (K0.out.below b2).cell 6
      have HB2 := Lib.hid (below5 HB.out b2)
      have HD2 := Lib.hid (HD.out _ (below5 HB.out b2))
      clear b2
      go_wp2_with fail
      refine HD2.out.mono ?_
      rintro e w3 ⟨z, rfl, b3⟩
      go_wp2_with fail
      go_ret
      exact ⟨_, rfl, below5 HB2.out b3⟩
  · have hz1 : (z != 0) = true := by simpa using hz0
    go_enter Tryz.func96, Tryz.ntmps96
    go_wp2_with fail
    refine HN.out.mono ?_
    rintro e w2 ⟨rfl, b2⟩
    have HB2 := Lib.hid (below5 HB.out b2)
    clear b2
    go_wp2_with fail
    go_ret
    exact ⟨_, rfl, HB2.out⟩
end Go.Proofs.YtneghhbclefmoaaGreat
