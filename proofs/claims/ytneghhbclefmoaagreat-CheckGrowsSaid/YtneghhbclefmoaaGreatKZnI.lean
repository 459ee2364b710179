/- Zones: a host's addresses. -/
import Derived.Test.YtneghhbclefmoaaGreatKGdE
namespace Go.Proofs.YtneghhbclefmoaaGreat
open Go.RowKit Go.Shelf Go.Sort
set_option maxRecDepth 100000
def Rs.datOf (c : List Rc.PRec) : List Rc.PRec := match c with
 | [] => []
 | x :: xs => (x :: xs).take (Rs.run x (x :: xs))
def Zn.glueT (L : List Rc.PRec) (h : List (List UInt8)) : Nat -> List Rc.PRec
 | 0 => []
 | k + 1 => Zn.glueT L h k ++ Rs.datOf (Rs.mine L h (if k = 0 then 1 else 28))
theorem ofV.data {w : World} {c : List (El w)} {v : Value} {W : World} (h : ofV c v W) : ∃ pa pn pc t tt od n cd d, v = .agg #[.slice pa pn pc, .int .i64 t, .int .u32 tt, .slice od n cd] /\ (d : List (El w)).length = n /\ DatsRd (.slice od n cd) d W /\ plE d = Rs.datOf (plE c) /\ d.length <= c.length := by
 match c, h with
 | [], h => exact ⟨_, _, _, _, _, _, _, _, [], h, rfl, DatsRd.nil W, rfl, Nat.le_refl _⟩
 | x :: xs, ⟨vo, od, cd, h1, h2, h3⟩ =>
  have hl : ((x :: xs).take (Rs.run x.1.2 (plE (x :: xs)))).length = Rs.run x.1.2 (plE (x :: xs)) := by
   have := Rs.run_le x.1.2 (plE (x :: xs))
   rw [List.length_take]; simp only [plE, List.length_map] at this ⊢; omega
  obtain ⟨pa, pc, rfl, _⟩ := id h2
  refine ⟨pa, _, pc, _, _, od, _, cd, _, h1, hl, h3, ?_, by rw [List.length_take]; exact Nat.min_le_right _ _⟩
  simp [plE, Rs.datOf]
end Go.Proofs.YtneghhbclefmoaaGreat
