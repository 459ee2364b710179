/- Types of records: plain functions and laws. -/
import Derived.Test.YtjhibbjafjhhjaaDoorKTxB
import Derived.Test.YtjhibbjafjhhjaaDoorKLabSpec
namespace Go.Proofs.YtjhibbjafjhhjaaDoor
open Go.RowKit Go.Shelf
set_option maxRecDepth 100000
namespace Ty
def typeOf (f : List UInt8) : Option Int := (names.find? fun p => Lb.fold p.2 == f).map (·.1)
def dig (c : UInt8) : Bool := decide (48 <= c.toNat /\ c.toNat <= 57)
def step (n : Nat) (c : UInt8) : Nat := 10 * n + (c.toNat - 48)
def val (s : List UInt8) : Nat := s.foldl step 0
def dec (s : List UInt8) (bound : Nat) : Nat × Int :=
 if s = [] \/ s.all dig = false \/ (s.head? = some 48 /\ s ≠ [48]) then (0, 2) else if bound < val s then (0, 7) else (val s, 0)
def cut (f : List UInt8) : List UInt8 × Bool := if f.take 4 = [116, 121, 112, 101] then (f.drop 4, true) else (f, false)
def rest (f : List UInt8) : Int × Int :=
 if (cut f).2 = false \/ (dec (cut f).1 65535).2 = 2 then (0, 6) else if (dec (cut f).1 65535).2 ≠ 0 \/ (dec (cut f).1 65535).1 = 0 then (0, 7) else (((dec (cut f).1 65535).1 : Int), 0)
def parse (s : List UInt8) : Int × Int := match typeOf (Lb.fold s) with
 | some t => (t, 0)
 | none => rest (Lb.fold s)
theorem nameOf_mem {t : Int} {s : List UInt8} (h : nameOf t = some s) : (t, s) ∈ names := by
 unfold nameOf at h
 rcases hf : names.find? (fun p => p.1 == t) with _ | ⟨t', s'⟩
 ·rw [hf] at h; simp at h
 ·rw [hf] at h
  simp only [Option.map_some, Option.some.injEq] at h
  have h1 := List.find?_some hf
  have h2 := List.mem_of_find?_eq_some hf
  simp only [beq_iff_eq] at h1
  subst h h1
  exact h2
end Ty
end Go.Proofs.YtjhibbjafjhhjaaDoor
