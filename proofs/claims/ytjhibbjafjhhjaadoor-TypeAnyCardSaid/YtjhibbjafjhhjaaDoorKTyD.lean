/- Types of records: what the laws know first. -/
import Derived.Test.YtjhibbjafjhhjaaDoorKTyB
import Derived.Test.YtjhibbjafjhhjaaDoorKTyC
namespace Go.Proofs.YtjhibbjafjhhjaaDoor
open Go.RowKit Go.Shelf
set_option maxRecDepth 100000
theorem tparse_at {s : List UInt8} {a b : Int} (h : Ty.parse s = (a, b)) (hs : s.length <= 100000) (w : World) (he : EV w) :
  Calls Tryd.prog 12 #[S s] w (Gives (.tuple #[.int .i64 a, .int .i64 b]) w) := by
 have := tparse_any s hs w he
 rw [h] at this
 exact this
theorem text_at {t : Nat} {s : List UInt8} (h : Ty.text t = s) (ht : t < 9223372036854775808) (w : World) (hT : Tab w) : Calls Tryd.prog 16 #[.int .i64 t] w (Gives (S s) w) := by
 rw [<- h]; exact typeText_any t ht w hT
theorem known_at {t : Int} {b : Bool} (h : (Ty.nameOf t).isSome = b) (w : World) : Calls Tryd.prog 14 #[.int .i64 t] w (Gives (.bool b) w) := by
 rw [<- h]; exact rknown_any t w
theorem Ty.text99 : Ty.text 99 = [84, 89, 80, 69, 57, 57] := by
 unfold Ty.text
 rw [show Ty.nameOf ((99 : Nat) : Int) = none by decide, Lib.decDigits_two (by decide) (by decide)]
 rfl
set_option maxHeartbeats 8000000 in
theorem tknown_any (w : World) (ht : Tab w) (he : EV w) : Calls Tryd.prog 11 #[] w (Gives (.bool true) w) := by
 have HT := Lib.hid ht
 have HE := Lib.hid he
 clear ht he
 refine (callsIn_wide (n := 0)).1 ?_
 refine callsIn_of_wp Tryd.func11 rfl trivial ?_ rfl
 simp only [Tryd.ntmps11, List.size_toArray, List.length_nil, Nat.reduceSub, Array.replicate_succ, Array.replicate_zero, List.push_toArray, List.append_toArray, List.nil_append, List.cons_append]
 gi_wp2_with fail
 refine (callsIn_wide.2 (tparse_at (s := [99, 78, 97, 109, 101]) (a := 5) (b := 0) (by decide) (by decide) w HE.out)).mono ?_
 rintro e w1 ⟨rfl, b1⟩
 have HB1 := Lib.hid b1
 clear b1
 gi_wp2_with fail
 refine (callsIn_wide.2 (tparse_at (s := [84, 89, 80, 69, 53]) (a := 5) (b := 0) (by decide) (by decide) w1 (HE.out.below HB1.out))).mono ?_
 rintro e w2 ⟨rfl, b2⟩
 have HB2 := Lib.hid (below5 HB1.out b2)
 clear b2
 gi_wp2_with fail
 refine (callsIn_wide.2 (tparse_at (s := [84, 89, 80, 69, 48]) (a := 0) (b := 7) (by decide) (by decide) w2 (HE.out.below HB2.out))).mono ?_
 rintro e w3 ⟨rfl, b3⟩
 have HB3 := Lib.hid (below5 HB2.out b3)
 clear b3
 gi_wp2_with fail
 refine (callsIn_wide.2 (tparse_at (s := [88]) (a := 0) (b := 6) (by decide) (by decide) w3 (HE.out.below HB3.out))).mono ?_
 rintro e w4 ⟨rfl, b4⟩
 have HB4 := Lib.hid (below5 HB3.out b4)
 clear b4
 gi_wp2_with fail
 refine (callsIn_wide.2 (text_at (t := 5) (s := [67, 78, 65, 77, 69]) (by decide) (by decide) w4 (HT.out.below HB4.out))).mono ?_
 rintro e w5 ⟨rfl, b5⟩
 have HB5 := Lib.hid (below5 HB4.out b5)
 clear b5
 gi_wp2_with fail
 refine (callsIn_wide.2 (text_at (t := 99) Ty.text99 (by decide) w5 (HT.out.below HB5.out))).mono ?_
 rintro e w6 ⟨rfl, b6⟩
 have HB6 := Lib.hid (below5 HB5.out b6)
 clear b6
 gi_wp2_with fail
 refine (callsIn_wide.2 (known_at (t := 39) (b := true) (by decide) w6)).mono ?_
 rintro e w7 ⟨rfl, b7⟩
 have HB7 := Lib.hid (below5 HB6.out b7)
 clear b7
 gi_wp2_with fail
 refine (callsIn_wide.2 (known_at (t := 3) (b := false) (by decide) w7)).mono ?_
 rintro e w8 ⟨rfl, b8⟩
 have HB8 := Lib.hid (below5 HB7.out b8)
 clear b8
 gi_wp2_with fail
 refine (callsIn_wide.2 (all_any w8)).mono ?_
 rintro e w9 ⟨v, rfl, hs, b9⟩
 have HB9 := Lib.hid (below5 HB8.out b9)
 obtain ⟨o9, c9, rfl, _⟩ := hs
 rw [show (Ty.keys.map I64).length = 9 from rfl]
 clear b9
 gi_wp2_with fail
 go_ret
 exact ⟨rfl, HB9.out⟩
end Go.Proofs.YtjhibbjafjhhjaaDoor
