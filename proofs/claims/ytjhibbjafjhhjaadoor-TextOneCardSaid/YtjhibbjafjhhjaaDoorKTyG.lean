/- Types of records, as the reference has them: TypeText, Number. -/
import Derived.Test.YtjhibbjafjhhjaaDoorKTyF
namespace Go.Proofs.YtjhibbjafjhhjaaDoor
open Go.RowKit Go.Shelf
set_option maxRecDepth 100000
theorem refTText_any (t : Nat) (h : t < 9223372036854775808) (w : World) : Calls Tryd.prog 19 #[.int .i64 t] w (Gives (S (Ty.text t)) w) := by
 have HK := Lib.hid (refKnown_any (t : Int) w)
 have HN := Lib.hid (fun w => refName_any (t : Int) w)
 rcases hn : Ty.nameOf t with _ | s
 ·rw [hn] at HK
  have hlen := dec_len t (by omega)
  have htx : Hid (Ty.text t = [84, 89, 80, 69] ++ Lib.decDigits t) := by show _ = _; unfold Ty.text; rw [hn]
  obtain ⟨R, hR⟩ : ∃ R, Ty.text t = R := ⟨_, rfl⟩
  rw [hR] at htx ⊢
  clear hn hR HN
  refine (callsIn_wide (n := 0)).1 ?_
  refine callsIn_of_wp Tryd.func19 rfl trivial ?_ rfl
  simp only [Tryd.ntmps19, List.size_toArray, List.length_cons, List.length_nil, Nat.reduceAdd, Nat.reduceSub, Array.replicate_succ, Array.replicate_zero, List.push_toArray, List.append_toArray, List.nil_append, List.cons_append]
  gi_wp2_with fail
  refine (callsIn_wide.2 HK.out).mono ?_
  rintro e w1 ⟨rfl, b1⟩
  simp only [Option.isSome_none]
  gi_wp2_with fail
  refine (callsIn_wide.2 (refDecimal_any t h w1)).mono ?_
  rintro e w2 ⟨rfl, b2⟩
  have hb := below5 b1 b2
  gi_wp2_with fail
  go_ret
  refine ⟨?_, hb⟩
  rw [htx.out]
  show Ending.returned (.string _) = Ending.returned (.string _)
  congr 2
 ·rw [hn] at HK HN
  have htx : Ty.text t = s := by unfold Ty.text; rw [hn]
  rw [htx]
  clear hn htx
  refine (callsIn_wide (n := 0)).1 ?_
  refine callsIn_of_wp Tryd.func19 rfl trivial ?_ rfl
  simp only [Tryd.ntmps19, List.size_toArray, List.length_cons, List.length_nil, Nat.reduceAdd, Nat.reduceSub, Array.replicate_succ, Array.replicate_zero, List.push_toArray, List.append_toArray, List.nil_append, List.cons_append]
  gi_wp2_with fail
  refine (callsIn_wide.2 HK.out).mono ?_
  rintro e w1 ⟨rfl, b1⟩
  simp only [Option.isSome_some]
  gi_wp2_with fail
  refine (callsIn_wide.2 (HN.out w1)).mono ?_
  rintro e w2 ⟨rfl, b2⟩
  have hb := below5 b1 b2
  simp only [Option.getD]
  gi_wp2_with fail
  go_ret
  exact ⟨rfl, hb⟩
def NumI (s : List UInt8) (k n : Nat) (ov : Bool) : Prop := (s.take k).all Ty.dig = true /\ (ov = true -> 65535 < Ty.val (s.take k)) /\ (ov = false -> n = Ty.val (s.take k) /\ n <= 65535)
end Go.Proofs.YtjhibbjafjhhjaaDoor
