/- The walk of TypeAny. -/
import Derived.Test.YtjhibbjafjhhjaaDoorKTyH
import Derived.Test.YtjhibbjafjhhjaaDoorKReg
namespace Go.Proofs.YtjhibbjafjhhjaaDoor
open Go.RowKit Go.Shelf
set_option maxRecDepth 100000
theorem rknown_at {t : Int} {b : Bool} (h : (Ty.nameOf t).isSome = b) (w : World) : Calls Tryd.prog 15 #[.int .i64 t] w (Gives (.bool b) w) := by
 rw [<- h]; exact refKnown_any t w
theorem rtext_at {t : Nat} {s : List UInt8} (h : Ty.text t = s) (ht : t < 9223372036854775808) (w : World) : Calls Tryd.prog 19 #[.int .i64 t] w (Gives (S s) w) := by
 rw [<- h]; exact refTText_any t ht w
def TrTy (w : World) (e : Ending) (w' : World) : Prop := e = .returned (.bool true) /\ Below w.heap.size w w'
set_option maxHeartbeats 8000000 in
theorem walkTypeAny (s : List UInt8) (t : Int) (w : World) (hs : s.length <= maxLen) (_ : (Lit.int .i64 t).wf = true) (ht : Tab w) (he : EV w) :
  Calls Tryd.prog 5 #[S s, .int .i64 t] w (TrTy w) := by
 unfold maxLen at hs
 have HT := Lib.hid ht
 have HE := Lib.hid he
 have lz : (s.length : Int) <= 9223372036854775807 := by omega
 clear ht he
 by_cases hl : 100 < s.length
 ·have hlz : (100 : Int) < (s.length : Int) := by omega
  refine (callsIn_wide (n := 0)).1 ?_
  refine callsIn_of_wp Tryd.func5 rfl trivial ?_ rfl
  simp only [Tryd.ntmps5, List.size_toArray, List.length_cons, List.length_nil, Nat.reduceAdd, Nat.reduceSub, Array.replicate_succ, Array.replicate_zero, List.push_toArray, List.append_toArray, List.nil_append, List.cons_append]
  gi_wp2_with fail
  refine (callsIn_wide.2 (tknown_any w HT.out HE.out)).mono ?_
  rintro e w1 ⟨rfl, b1⟩
  gi_wp2_with fail
  go_ret
  exact ⟨rfl, b1⟩
 have hlz : ¬ ((100 : Int) < (s.length : Int)) := by omega
 obtain ⟨a, b, hp⟩ : ∃ a b, Ty.parse s = (a, b) := ⟨_, _, rfl⟩
 obtain ⟨kn, hkn⟩ : ∃ x, (Ty.nameOf t).isSome = x := ⟨_, rfl⟩
 have HPA := Lib.hid hp
 have HKN := Lib.hid hkn
 clear hp hkn
 refine (callsIn_wide (n := 0)).1 ?_
 refine callsIn_of_wp Tryd.func5 rfl trivial ?_ rfl
 simp only [Tryd.ntmps5, List.size_toArray, List.length_cons, List.length_nil, Nat.reduceAdd, Nat.reduceSub, Array.replicate_succ, Array.replicate_zero, List.push_toArray, List.append_toArray, List.nil_append, List.cons_append]
 gi_wp2_with fail
 refine (callsIn_wide.2 (tknown_any w HT.out HE.out)).mono ?_
 rintro e w1 ⟨rfl, b1⟩
 have HB1 := Lib.hid b1
 clear b1
 gi_wp2_with fail
 refine (callsIn_wide.2 (tparse_at HPA.out (by omega) w1 (HE.out.below HB1.out))).mono ?_
 rintro e w2 ⟨rfl, b2⟩
 have HB2 := Lib.hid (below5 HB1.out b2)
 clear b2
 gi_wp2_with fail
 refine (callsIn_wide.2 (refParse_at HPA.out (by omega) w2)).mono ?_
 rintro e w3 ⟨rfl, b3⟩
 have HB3 := Lib.hid (below5 HB2.out b3)
 clear b3
 gi_wp2_with fail
 refine (callsIn_wide.2 (known_at HKN.out w3)).mono ?_
 rintro e w4 ⟨rfl, b4⟩
 have HB4 := Lib.hid (below5 HB3.out b4)
 clear b4
 gi_wp2_with fail
 refine (callsIn_wide.2 (rknown_at HKN.out w4)).mono ?_
 rintro e w5 ⟨rfl, b5⟩
 have HB5 := Lib.hid (below5 HB4.out b5)
 clear b5
 by_cases hr : 1 <= t /\ t <= 65535
 case neg =>
  by_cases h1 : t < 1
  ·gi_wp2_with fail
   go_ret
   exact ⟨rfl, HB5.out⟩
  ·have h2 : 65535 < t := by omega
   gi_wp2_with fail
   go_ret
   exact ⟨rfl, HB5.out⟩
 case pos =>
 obtain ⟨n, rfl⟩ : ∃ n : Nat, t = n := ⟨t.toNat, by omega⟩
 have t1 : 1 <= n := by omega
 have t2 : n <= 65535 := by omega
 have h1 : ¬ ((n : Int) < 1) := by omega
 have h2 : ¬ ((65535 : Int) < (n : Int)) := by omega
 obtain ⟨tx, htx⟩ : ∃ x, Ty.text n = x := ⟨_, rfl⟩
 have hln : tx.length <= 1000 := by rw [<- htx]; exact Ty.text_len n (by omega)
 have HTX := Lib.hid htx
 have HPT : Hid (Ty.parse tx = ((n : Int), 0)) := by show _ = _; rw [<- htx]; exact Ty.parse_text n t1 t2
 clear htx hr
 gi_wp2_with fail
 refine (callsIn_wide.2 (text_at HTX.out (by omega) w5 (HT.out.below HB5.out))).mono ?_
 rintro e w6 ⟨rfl, b6⟩
 have HB6 := Lib.hid (below5 HB5.out b6)
 clear b6
 gi_wp2_with fail
 refine (callsIn_wide.2 (tparse_at HPT.out (by omega) w6 (HE.out.below HB6.out))).mono ?_
 rintro e w7 ⟨rfl, b7⟩
 have HB7 := Lib.hid (below5 HB6.out b7)
 clear b7
 gi_wp2_with fail
 refine (callsIn_wide.2 (all_any w7)).mono ?_
 rintro e w8 ⟨v, rfl, hsl, b8⟩
 have HB8 := Lib.hid (below5 HB7.out b8)
 obtain ⟨o8, c8, rfl, _, _, _, hsl⟩ := hsl
 rw [show (Ty.keys.map I64).length = 9 from rfl]
 have HSL := Lib.hid hsl
 clear b8 hsl
 gi_wp2_with fail
 refine (callsIn_wide.2 (refTypes_any w8)).mono ?_
 rintro e w9 ⟨rfl, hk, b9⟩
 obtain ⟨g, hg⟩ : ∃ g, w8.heap.size = g := ⟨_, rfl⟩
 rw [hg] at hk ⊢
 have HK := Lib.hid hk
 have HB9 := Lib.hid (below5 HB8.out b9)
 have HB89 := Lib.hid b9
 clear hk b9 hg
 gi_wp2_with fail
 gi_loopw [13] (fun v W => ∃ k : Nat, k <= 9 /\ v = .int .i64 k /\ Below w9.heap.size w9 W) (fun v _ => 9 - (intOf v).toNat)
 case atStart => exact ⟨0, Nat.zero_le _, rfl, Below.refl _ _⟩
 case round =>
  obtain ⟨k, hk, rfl, hb⟩ := hrel
  have HB := Lib.hid (below5 HB9.out hb)
  have HBW := Lib.hid hb
  by_cases hlt : k < 9
  case pos =>
   have hkl : k < (Ty.keys.map I64).length := hlt
   have hlz : (k : Int) < 9 := by omega
   obtain ⟨ad, rfl, c1⟩ := HSL.out k hkl
   have hkk : k < Ty.keys.length := hlt
   obtain ⟨x, hx⟩ : ∃ x, Ty.keys[k] = x := ⟨_, rfl⟩
   have c1' : wr.cell? (ad.add k) = some (.int .i64 x) := by
    have hb2 := below5 HB89.out hb
    rw [(hb2.cell (cell_lt c1)).trans c1, List.getElem_map, hx]
   have c2' : wr.cell? ⟨g, k, none⟩ = some (.int .i64 x) := by
    rw [(HK.out.below hb).cell k]; simp [hx, hkk]
   clear hb c1 hx
   gi_wp2_with fail
   refine drawnH [3, 7] (fun w' => w'.cell? (ad.add k) = some (.int .i64 x) /\ w'.cell? ⟨g, k, none⟩ = some (.int .i64 x)) 9 rfl (by kernel_rfl) ?_
   intro w' hw'
   have hS : w'.cell? (ad.add k) = some (.int .i64 x) /\ w'.cell? ⟨g, k, none⟩ = some (.int .i64 x) := by subst hw'; exact ⟨c1', c2'⟩
   have hbw : Below wr.heap.size wr w' := by subst hw'; exact (Below.refl _ _).drew
   have HBW2 := Lib.hid (below5 HBW.out hbw)
   clear hw' c1' c2' hbw
   refine tP 0 ?qv0 (fun w1 _ => ?qy0) ?_
   case qy0 => (go_simp; try first | rfl | (rw [if_pos (by omega)]) | (rw [if_neg (by omega)]) | (rw [if_neg (by simp; omega)]) | (split <;> first | (exfalso; omega) | rfl))
   refine tP 1 ?qv1 (fun w1 _ => ?qy1) ?_
   case qy1 => (go_simp; try first | rfl | (rw [if_pos (by omega)]) | (rw [if_neg (by omega)]) | (rw [if_neg (by simp; omega)]) | (split <;> first | (exfalso; omega) | rfl))
   refine tP 2 ?qv2 (fun w1 _ => ?qy2) ?_
   case qy2 => (go_simp; try first | rfl | (rw [if_pos (by omega)]) | (rw [if_neg (by omega)]) | (rw [if_neg (by simp; omega)]) | (split <;> first | (exfalso; omega) | rfl))
   refine tP 4 ?qv4 (fun w1 _ => ?qy4) ?_
   case qy4 => (go_simp; try first | rfl | (rw [if_pos (by omega)]) | (rw [if_neg (by omega)]) | (rw [if_neg (by simp; omega)]) | (split <;> first | (exfalso; omega) | rfl))
   refine tP 5 ?qv5 (fun w1 _ => ?qy5) ?_
   case qy5 => (go_simp; try first | rfl | (rw [if_pos (by omega)]) | (rw [if_neg (by omega)]) | (rw [if_neg (by simp; omega)]) | (split <;> first | (exfalso; omega) | rfl))
   refine tP 6 ?qv6 (fun w1 _ => ?qy6) ?_
   case qy6 => (go_simp; try first | rfl | (rw [if_pos (by omega)]) | (rw [if_neg (by omega)]) | (rw [if_neg (by simp; omega)]) | (split <;> first | (exfalso; omega) | rfl))
   simp only [Act.put, List.setIfInBounds_toArray, List.set_cons_succ, List.set_cons_zero]
   refine tH 3 ?qv3 hS (fun w1 ⟨f0, f1⟩ => ?qy3) ?_
   case qy3 => (go_simp; try first | rfl | (rw [if_pos (by omega)]) | (rw [if_neg (by omega)]) | (rw [if_neg (by simp; omega)]) | (split <;> first | (exfalso; omega) | rfl))
   refine tH 7 ?qv7 hS (fun w1 ⟨f0, f1⟩ => ?qy7) ?_
   case qy7 => (go_simp; try first | rfl | (rw [if_pos (by omega)]) | (rw [if_neg (by omega)]) | (rw [if_neg (by simp; omega)]) | (split <;> first | (exfalso; omega) | rfl))
   simp only [Act.put, List.setIfInBounds_toArray, List.set_cons_succ, List.set_cons_zero]
   refine tP 8 ?qv8 (fun w1 _ => ?qy8) ?_
   case qy8 => (go_simp; try first | rfl | (rw [if_pos (by omega)]) | (rw [if_neg (by omega)]) | (rw [if_neg (by simp; omega)]) | (split <;> first | (exfalso; omega) | rfl))
   simp only [Act.put, List.setIfInBounds_toArray, List.set_cons_succ, List.set_cons_zero]
   refine doneH (by kernel_rfl) ?_
   gi_wp2_with fail
   exact ⟨⟨k + 1, hlt, by go_num, HBW2.out⟩, by simp [intOf]; omega⟩
  case neg =>
   have hlz : ¬ ((k : Int) < 9) := by omega
   clear hb
   gi_wp2_with fail
   refine (callsIn_wide.2 (text_at HTX.out (by omega) wr (HT.out.below HB.out))).mono ?_
   rintro e w10 ⟨rfl, b10⟩
   have HB10 := Lib.hid (below5 HB.out b10)
   clear b10
   gi_wp2_with fail
   refine (callsIn_wide.2 (rtext_at HTX.out (by omega) w10)).mono ?_
   rintro e w11 ⟨rfl, b11⟩
   have HB11 := Lib.hid (below5 HB10.out b11)
   clear b11
   gi_wp2_with fail
   go_ret
   exact ⟨rfl, HB11.out⟩
end Go.Proofs.YtjhibbjafjhhjaaDoor
