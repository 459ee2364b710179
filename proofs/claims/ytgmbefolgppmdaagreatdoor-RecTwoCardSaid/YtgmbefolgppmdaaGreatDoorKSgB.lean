/- The walk of SetsEqual. -/
import Derived.Test.YtgmbefolgppmdaaGreatDoorKSgA
import Derived.Test.YtgmbefolgppmdaaGreatDoorKSeY
namespace Go.Proofs.YtgmbefolgppmdaaGreatDoor
open Go.RowKit Go.Shelf Go.Sort
set_option maxRecDepth 100000
def TrE (w : World) (e : Ending) (w' : World) : Prop := e = .returned (.bool true) /\ Below w.heap.size w w'
def OfD (w : World) (cs : List Value) (r : Rc.PRec) (W : World) : Prop :=
 ∃ us ox cx vm vt vr, cs = [.int .i64 r.type, .slice ox us.length cx, vm, vt, vr] /\ Row (fun g => w.heap.size <= g) 22 1 (.slice ox us.length cx) us.length us W /\ us.length = r.names.length /\
  (∀ i (h : i < us.length) (h' : i < r.names.length), Rd us[i] r.names[i] w) /\ Sl vm (numC r.nums) w /\ Rd vt r.texts w /\ BtRd vr r.raw w
theorem OfD.dat {w : World} {cs : List Value} {r : Rc.PRec} {W : World} (h : OfD w cs r W) (hb : Below w.heap.size w W) : DatRd cs r W := by
 obtain ⟨us, ox, cx, vm, vt, vr, rfl, h1, h2, h3, h4, h5, h6⟩ := h
 exact ⟨_, vm, vt, vr, rfl, ⟨us, h2, Row.sl h1, fun i hi hi' => (h3 i hi hi').below hb⟩, h4.below hb, h5.below hb, Sl.below h6 hb⟩
theorem OfD.below {w : World} {cs : List Value} {r : Rc.PRec} {W W' : World} (h : OfD w cs r W) (hb : Below W.heap.size W W') : OfD w cs r W' := by
 obtain ⟨us, ox, cx, vm, vt, vr, rfl, h1, h2⟩ := h
 exact ⟨us, ox, cx, vm, vt, vr, rfl, h1.below hb, h2⟩
theorem OfD.grown {w : World} {cs : List Value} {r : Rc.PRec} {W W' : World} {row : Option Nat} (h : OfD w cs r W) (hg : W.grownBy W' row) (hr : ∀ g, row = some g -> ∃ c t f, W.heap[g]? = some (.cells c t f) /\ t ≠ 22) : OfD w cs r W' := by
 obtain ⟨us, ox, cx, vm, vt, vr, rfl, h1, h2⟩ := h
 refine ⟨us, ox, cx, vm, vt, vr, rfl, h1.kept fun g c t f hv hk => (hg.block g (Array.getElem?_eq_some_iff.1 hk).1 (fun e => ?_)).trans hk, h2⟩
 obtain ⟨c1, f1, h3⟩ := h1.typ hv
 obtain ⟨c2, t2, f2, h4, h5⟩ := hr g e.symm
 rw [h3] at h4; cases h4; exact h5 rfl
theorem OfD.one {w : World} {cs : List Value} {r : Rc.PRec} {W : World} (h : OfD w cs r W) (hb : Below w.heap.size w W) : cs.length = 5 /\ ∀ u ∈ cs, u.oneCell' = true := (h.dat hb).ok
end Go.Proofs.YtgmbefolgppmdaaGreatDoor
