/- Sorting a row of records: two neighbouring rows in order, brought together in place. -/
import Derived.Test.YtneghhbclefmoaaGreatJSrtE
namespace Go.Proofs.YtneghhbclefmoaaGreat
open Go.RowKit Go.Shelf Go.Sort
set_option maxRecDepth 100000

theorem Srt.St.len {α : Type} {lt : α → α → Bool} (ho : Srt.Ord lt) {l' l : List α} (h : Srt.St lt l' l) : l'.length = l.length := by rw [h.eq_srt ho, Srt.srt_len]
section
variable {α : Type} [Inhabited α] {enc : α → List Value} {k : Nat} {w0 : World} {blk off : Nat}
/-- rows of fewer than N things in all are brought together -/
def SymOk (gf : Nat) (enc : α → List Value) (k : Nat) (cf : α → α → Int) (w0 : World) (blk off n cap N : Nat) : Prop :=
  ∀ (P X Y Q : List α) (a m b : Nat) (W : World), X.length + Y.length < N → (P ++ (X ++ (Y ++ Q))).length = n → P.length = a → a + X.length = m → m + Y.length = b → 0 < X.length → 0 < Y.length → Srt.Sorted (ltC cf) X → Srt.Sorted (ltC cf) Y → SL enc k w0 blk off (P ++ (X ++ (Y ++ Q))) W →
    Calls Tryz.prog 182 #[.slice (some ⟨blk, off, none⟩) n cap, .int .i64 a, .int .i64 m, .int .i64 b, .func (.func gf) #[] #[]] W fun e w' => e = .returned (.tuple #[]) ∧ ∃ Z, Srt.St (ltC cf) Z (X ++ Y) ∧ SL enc k w0 blk off (P ++ (Z ++ Q)) w'
end
end Go.Proofs.YtneghhbclefmoaaGreat
