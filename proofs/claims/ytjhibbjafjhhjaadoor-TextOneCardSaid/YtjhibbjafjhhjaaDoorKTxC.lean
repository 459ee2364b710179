/- rtype.Text: a type in words; rtype.Known. -/
import Derived.Test.YtjhibbjafjhhjaaDoorKTxB
namespace Go.Proofs.YtjhibbjafjhhjaaDoor
open Go.RowKit Go.Shelf
set_option maxRecDepth 100000
theorem Ty.find_some {t : Int} {s : List UInt8} (h : Ty.nameOf t = some s) : ∃ p, (Ty.names.find? fun p => p.1 == t) = some p /\ p.2 = s := by
 unfold Ty.nameOf at h
 rw [Option.map_eq_some_iff] at h
 exact h
theorem Ty.find_none {t : Int} (h : Ty.nameOf t = none) : (Ty.names.find? fun p => p.1 == t) = none := by
 unfold Ty.nameOf at h
 simpa using h
set_option maxHeartbeats 1000000 in
theorem typeText_any (t : Nat) (h : t < 9223372036854775808) (w : World) (ht : Tab w) : Calls Tryd.prog 16 #[.int .i64 t] w (Gives (S (Ty.text t)) w) := by
 have HT := Lib.hid ht
 clear ht
 rcases hn : Ty.nameOf t with _ | s
 ·have hlen := dec_len t (by omega)
  have hf := Lib.hid (Ty.find_none hn)
  have htx : Hid (Ty.text t = [84, 89, 80, 69] ++ Lib.decDigits t) := by show _ = _; unfold Ty.text; rw [hn]
  clear hn
  go_enter Tryd.func16, Tryd.ntmps16
  go_wp2_with (go_at_call 40; refine (names_any _).mono ?_; rintro e w1 ⟨rfl, hg, b1⟩; have HG := Lib.hid hg; clear hg)
  refine (findIS_any _ Ty.names t w1 HG.out (by decide)).mono ?_
  rintro e w2 ⟨rfl, b2⟩
  rw [hf.out]
  have hb := below5 b1 b2
  have HT2 := Lib.hid (HT.out.below hb)
  clear b1 b2 HG
  go_wp2_with fail
  refine (itoa_any t h w2 HT2.out).mono ?_
  rintro e w3 ⟨rfl, b3⟩
  have hb3 := below5 hb b3
  go_wp2_with fail
  go_ret
  refine ⟨?_, hb3⟩
  rw [htx.out]
  show Ending.returned (.string _) = Ending.returned (.string _)
  congr 2
 ·obtain ⟨p, hp, rfl⟩ := Ty.find_some hn
  have hf := Lib.hid hp
  have htx : Hid (Ty.text t = p.2) := by show _ = _; unfold Ty.text; rw [hn]
  clear hn hp
  go_enter Tryd.func16, Tryd.ntmps16
  go_wp2_with (go_at_call 40; refine (names_any _).mono ?_; rintro e w1 ⟨rfl, hg, b1⟩; have HG := Lib.hid hg; clear hg)
  refine (findIS_any _ Ty.names t w1 HG.out (by decide)).mono ?_
  rintro e w2 ⟨rfl, b2⟩
  rw [hf.out]
  simp only [Option.map_some, Option.getD_some, Option.isSome_some]
  have hb := below5 b1 b2
  clear b1 b2 HG
  go_wp2_with fail
  go_ret
  exact ⟨by rw [htx.out]; rfl, hb⟩
end Go.Proofs.YtjhibbjafjhhjaaDoor
