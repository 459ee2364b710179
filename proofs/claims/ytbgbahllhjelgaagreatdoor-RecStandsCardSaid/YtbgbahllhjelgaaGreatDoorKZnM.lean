/- Zones: what the laws' arguments are, once they may be. -/
import Derived.Test.YtbgbahllhjelgaaGreatDoorKGr
namespace Go.Proofs.YtbgbahllhjelgaaGreatDoor
open Go.RowKit Go.Shelf Go.Sort
set_option maxRecDepth 100000
theorem rb_of {r : Rc.PRec} (ho : Nm.few r.owner = true) (hd : DF r) (hn : RN r) : RB r :=
 ⟨NB.few ho, ⟨by have := hd.names; omega, fun n h => NB.few (hd.name n h)⟩, ⟨by have := hd.nums; omega, hn.2⟩, by have := hd.texts; omega, hn.1⟩
theorem els {W : World} : ∀ {l : List RP}, (∀ x ∈ l, RecRd x.1 x.2 W /\ RB x.2) -> ∃ L : List (El W), L.map (·.1) = l
 | [], _ => ⟨[], rfl⟩
 | x :: l, h => by
  obtain ⟨L, hL⟩ := els (fun y hy => h y (List.mem_cons_of_mem _ hy))
  exact ⟨⟨x, h x List.mem_cons_self⟩ :: L, by rw [List.map_cons, hL]⟩
theorem els_of {W : World} {v : Value} {l : List RP} (hv : RecsRd v l W) (hf : RF l) (hn : ∀ x ∈ l, RN x.2) : ∃ L : List (El W), L.map (·.1) = l /\ L.length <= 60 /\ L.length = l.length := by
 obtain ⟨L, hL⟩ := els (W := W) (l := l) (fun x hx => ⟨hv.1 x hx, rb_of (hf.owner x hx) (hf.dat x hx) (hn x hx)⟩)
 have hl : L.length = l.length := by rw [<- hL, List.length_map]
 exact ⟨L, hL, by have := hf.len; omega, hl⟩
end Go.Proofs.YtbgbahllhjelgaaGreatDoor
