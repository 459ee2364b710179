/- Types of records, as the reference has them: TypeText, Number. -/
import Derived.Test.YtjhibbjafjhhjaaDoorKTyF
namespace Go.Proofs.YtjhibbjafjhhjaaDoor
open Go.RowKit Go.Shelf
set_option maxRecDepth 100000
theorem refTText_any (t : Nat) (h : t < 9223372036854775808) (w : World) : Calls Tryd.prog 19 #[.int .i64 t] w (Gives (S (Ty.text t)) w) := by
 have HK := Lib.hid (refKnown_any (t : Int) w)
 have HN := Lib.hid (fun w => refName_any (t : Int) w)
 rcases hn : Ty.nameOf t with _ | s
 ·rw [hn] at HK
  have hlen := dec_len t (by omega)
  have htx : Hid (Ty.text t = [84, 89, 80, 69] ++ Lib.decDigits t) := by show _ = _; unfold Ty.text; rw [hn]
  obtain ⟨R, hR⟩ : ∃ R, Ty.text t = R := ⟨_, rfl⟩
  rw [hR] at htx ⊢
  clear hn hR HN
  refine (callsIn_wide (n := 0)).1 ?_
  refine callsIn_of_wp Tryd.func19 rfl trivial ?_ rfl
  simp only [Tryd.ntmps19, List.size_toArray, List.length_cons, List.length_nil, Nat.reduceAdd, Nat.reduceSub, Array.replicate_succ, Array.replicate_zero, List.push_toArray, List.append_toArray, List.nil_append, List.cons_append]
  gi_wp2_with fail
  refine (callsIn_wide.2 HK.out).mono ?_
  rintro e w1 ⟨rfl, b1⟩
  simp only [Option.isSome_none]
  gi_wp2_with fail
  refine (callsIn_wide.2 (refDecimal_any t h w1)).mono ?_
  rintro e w2 ⟨rfl, b2⟩
  have hb := below5 b1 b2
  gi_wp2_with fail
  go_ret
  refine ⟨?_, hb⟩
  rw [htx.out]
  show Ending.returned (.string _) = Ending.returned (.string _)
  congr 2
 ·rw [hn] at HK HN
  have htx : Ty.text t = s := by unfold Ty.text; rw [hn]
  rw [htx]
  clear hn htx
  refine (callsIn_wide (n := 0)).1 ?_
  refine callsIn_of_wp Tryd.func19 rfl trivial ?_ rfl
  simp only [Tryd.ntmps19, List.size_toArray, List.length_cons, List.length_nil, Nat.reduceAdd, Nat.reduceSub, Array.replicate_succ, Array.replicate_zero, List.push_toArray, List.append_toArray, List.nil_append, List.cons_append]
  gi_wp2_with fail
  refine (callsIn_wide.2 HK.out).mono ?_
  rintro e w1 ⟨rfl, b1⟩
  simp only [Option.isSome_some]
  gi_wp2_with fail
  refine (callsIn_wide.2 (HN.out w1)).mono ?_
  rintro e w2 ⟨rfl, b2⟩
  have hb := below5 b1 b2
  simp only [Option.getD]
  gi_wp2_with fail
  go_ret
  exact ⟨rfl, hb⟩
theorem Ty.val_take (s : List UInt8) (k : Nat) (h : k < s.length) : Ty.val (s.take (k + 1)) = Ty.step (Ty.val (s.take k)) s[k] := by
 rw [List.take_succ_eq_append_getElem h, Ty.val_snoc]
def NumI (s : List UInt8) (k n : Nat) (ov : Bool) : Prop := (s.take k).all Ty.dig = true /\ (ov = true -> 65535 < Ty.val (s.take k)) /\ (ov = false -> n = Ty.val (s.take k) /\ n <= 65535)
set_option maxHeartbeats 8000000 in
theorem refNumber_go (s : List UInt8) (hp : 0 < s.length) (hs : s.length <= 100000) (a1 : Nat) (a2 : Int) (w : World) (h48 : s[0].toNat = 48 -> ¬ 1 < s.length)
  (hdec : s.all Ty.dig = true -> (a1, a2) = if 65535 < Ty.val s then (0, 7) else (Ty.val s, 0)) (hnod : s.all Ty.dig = false -> (a1, a2) = (0, 2)) :
  Calls Tryd.prog 38 #[S s, .int .i64 65535] w (Gives (.tuple #[.int .i64 (a1 : Nat), .int .i64 a2]) w) := by
 have hsi : s.isEmpty = false := by cases s with | nil => simp at hp | cons _ _ => rfl
 have hpz : (0 : Int) < (s.length : Int) := by omega
 have lz : (s.length : Int) <= 100000 := by omega
 have HDEC := Lib.hid hdec
 have HNOD := Lib.hid hnod
 clear hdec hnod
 obtain ⟨c, hc⟩ : ∃ c, s[0] = c := ⟨_, rfl⟩
 rw [hc] at h48
 by_cases h1 : c.toNat = 48
 case pos =>
  have hl1 : ¬ ((1 : Int) < (s.length : Int)) := by have := h48 h1; omega
  have hcz : ((c.toNat : Int) == 48) = true := by simp [h1]
  clear h48
  refine (callsIn_wide (n := 0)).1 ?_
  refine callsIn_of_wp Tryd.func38 rfl trivial ?_ rfl
  simp only [Tryd.ntmps38, List.size_toArray, List.length_cons, List.length_nil, Nat.reduceAdd, Nat.reduceSub, Array.replicate_succ, Array.replicate_zero, List.push_toArray, List.append_toArray, List.nil_append, List.cons_append]
  gi_wp2_with fail
  gi_loopw [6, 7, 8] (fun v6 v7 v8 W => ∃ (k n : Nat) (ov : Bool), k <= s.length /\ v8 = .int .i64 k /\ v6 = .int .i64 n /\ v7 = .bool ov /\ n <= 655359 /\ Hid (NumI s k n ov) /\ Below w.heap.size w W) (fun _ _ v8 _ => s.length - (intOf v8).toNat)
  case atStart => exact ⟨0, 0, false, by omega, rfl, rfl, rfl, by omega, ⟨rfl, ⟨fun h => Bool.noConfusion h, fun _ => ⟨rfl, by omega⟩⟩⟩, Below.refl _ _⟩
  case round =>
   obtain ⟨k, n, ov, hk, rfl, rfl, rfl, hn, hi, hb⟩ := hrel
   have HI := Lib.hid hi.out
   have HB := Lib.hid hb
   clear hi hb
   by_cases hlt : k < s.length
   case neg =>
    have hlz : ¬ ((k : Int) < (s.length : Int)) := by omega
    have hall : s.all Ty.dig = true := by have := HI.out.1; rwa [List.take_of_length_le (by omega)] at this
    have htk : s.take k = s := List.take_of_length_le (by omega)
    have hd := HDEC.out hall
    cases ov with
    | true =>
     have h2 := HI.out.2.1 rfl
     rw [htk] at h2
     rw [if_pos h2] at hd
     cases hd
     clear HDEC HNOD HI htk hall
     gi_wp2_with fail
     go_ret2
     exact ⟨rfl, HB.out⟩
    | false =>
     have h2 := HI.out.2.2 rfl
     rw [htk] at h2
     rw [if_neg (by omega), <- h2.1] at hd
     cases hd
     clear HDEC HNOD HI htk hall h2
     gi_wp2_with fail
     go_ret2
     exact ⟨rfl, HB.out⟩
   case pos =>
   have hlz : (k : Int) < (s.length : Int) := by omega
   obtain ⟨x, hx⟩ : ∃ x, s[k] = x := ⟨_, rfl⟩
   have HX := Lib.hid hx
   by_cases hdg : Lb.isDig x
   case neg =>
    have hnd : s.all Ty.dig = false := by
     rw [List.all_eq_false]
     exact ⟨x, by rw [<- hx]; exact List.getElem_mem hlt, by simp [Ty.dig]; intro h; exact Nat.lt_of_not_le fun h2 => hdg ⟨h, h2⟩⟩
    have hd := HNOD.out hnd
    cases hd
    have HDG := Lib.hid (refDigit_at x false (by simpa using hdg))
    clear hnd HDEC HNOD HI hdg
    gi_wp2_with (gi_at_call 62; first | rw [hx] | skip; refine (callsIn_wide.2 (HDG.out _)).mono ?_; rintro e w1 ⟨rfl, rfl⟩)
    go_ret2
    exact ⟨rfl, HB.out⟩
   case pos =>
   have HDG := Lib.hid (refDigit_at x true (by simpa using hdg))
   have h48 : 48 <= (x.toNat : Int) := by have := hdg.1; omega
   have h57 : (x.toNat : Int) <= 57 := by have := hdg.2; omega
   have hall : (s.take (k + 1)).all Ty.dig = true := by
    rw [List.take_succ_eq_append_getElem hlt, List.all_append, HI.out.1, hx]
    simp [Ty.dig]; exact hdg
   have hv : Ty.val (s.take (k + 1)) = 10 * Ty.val (s.take k) + (x.toNat - 48) := by rw [Ty.val_take s k hlt, hx]; rfl
   have HV := Lib.hid hv
   have HALL := Lib.hid hall
   clear hv hall hdg
   cases ov with
   | true =>
    gi_wp2_with (gi_at_call 62; first | rw [hx] | skip; refine (callsIn_wide.2 (HDG.out _)).mono ?_; rintro e w1 ⟨rfl, rfl⟩)
    exact ⟨⟨k + 1, n, true, hlt, by go_num, rfl, rfl, hn, ⟨HALL.out, ⟨fun _ => by have h1 := HI.out.2.1 rfl; have h2 := HV.out; omega, fun h => Bool.noConfusion h⟩⟩, HB.out⟩, by simp [intOf]; omega⟩
   | false =>
    gi_wp2_with fail
    first | rw [hx] | skip
    refine (callsIn_wide.2 (HDG.out _)).mono ?_
    rintro e w1 ⟨rfl, rfl⟩
    obtain ⟨hn1, hn2⟩ := HI.out.2.2 rfl
    obtain ⟨y, hy⟩ : ∃ y, x.toNat - 48 = y := ⟨_, rfl⟩
    have hyz : (x.toNat : Int) - 48 = (y : Int) := by omega
    have hxy : (x.toNat : Int) = (y : Int) + 48 := by omega
    have hy9 : y <= 9 := by omega
    have hy9z : (y : Int) <= 9 := by omega
    have hnz : (n : Int) <= 65535 := by omega
    obtain ⟨m, hm⟩ : ∃ m, 10 * n + y = m := ⟨_, rfl⟩
    have hmz : 10 * (n : Int) + (y : Int) = (m : Int) := by omega
    have hVm : Hid (Ty.val (s.take (k + 1)) = m) := by have h := HV.out; show _ = _; rw [h, <- hn1]; omega
    have HN1 := Lib.hid hn1
    clear hn1 hm hy hyz HDG
    by_cases h65 : 65535 < m
    ·have h65z : (65535 : Int) < (m : Int) := by omega
     gi_wp2_with fail
     exact ⟨⟨k + 1, m, true, hlt, by go_num, rfl, by first | rfl | rw [show decide ((65535 : Int) < (m : Int)) = true by simp; omega], by omega, ⟨HALL.out, ⟨fun _ => by rw [hVm.out]; exact h65, fun h => Bool.noConfusion h⟩⟩, HB.out⟩, by simp [intOf]; omega⟩
    ·have h65z : ¬ ((65535 : Int) < (m : Int)) := by omega
     gi_wp2_with fail
     exact ⟨⟨k + 1, m, false, hlt, by go_num, rfl, by first | rfl | rw [show decide ((65535 : Int) < (m : Int)) = false by simp; omega], by omega, ⟨HALL.out, ⟨fun h => Bool.noConfusion h, fun _ => ⟨hVm.out.symm, by omega⟩⟩⟩, HB.out⟩, by simp [intOf]; omega⟩
 case neg =>
  have hcz : ((c.toNat : Int) == 48) = false := by
   have : ¬ ((c.toNat : Int) = 48) := by omega
   simpa using this
  clear h48
  refine (callsIn_wide (n := 0)).1 ?_
  refine callsIn_of_wp Tryd.func38 rfl trivial ?_ rfl
  simp only [Tryd.ntmps38, List.size_toArray, List.length_cons, List.length_nil, Nat.reduceAdd, Nat.reduceSub, Array.replicate_succ, Array.replicate_zero, List.push_toArray, List.append_toArray, List.nil_append, List.cons_append]
  gi_wp2_with fail
  gi_loopw [6, 7, 8] (fun v6 v7 v8 W => ∃ (k n : Nat) (ov : Bool), k <= s.length /\ v8 = .int .i64 k /\ v6 = .int .i64 n /\ v7 = .bool ov /\ n <= 655359 /\ Hid (NumI s k n ov) /\ Below w.heap.size w W) (fun _ _ v8 _ => s.length - (intOf v8).toNat)
  case atStart => exact ⟨0, 0, false, by omega, rfl, rfl, rfl, by omega, ⟨rfl, ⟨fun h => Bool.noConfusion h, fun _ => ⟨rfl, by omega⟩⟩⟩, Below.refl _ _⟩
  case round =>
   obtain ⟨k, n, ov, hk, rfl, rfl, rfl, hn, hi, hb⟩ := hrel
   have HI := Lib.hid hi.out
   have HB := Lib.hid hb
   clear hi hb
   by_cases hlt : k < s.length
   case neg =>
    have hlz : ¬ ((k : Int) < (s.length : Int)) := by omega
    have hall : s.all Ty.dig = true := by have := HI.out.1; rwa [List.take_of_length_le (by omega)] at this
    have htk : s.take k = s := List.take_of_length_le (by omega)
    have hd := HDEC.out hall
    cases ov with
    | true =>
     have h2 := HI.out.2.1 rfl
     rw [htk] at h2
     rw [if_pos h2] at hd
     cases hd
     clear HDEC HNOD HI htk hall
     gi_wp2_with fail
     go_ret2
     exact ⟨rfl, HB.out⟩
    | false =>
     have h2 := HI.out.2.2 rfl
     rw [htk] at h2
     rw [if_neg (by omega), <- h2.1] at hd
     cases hd
     clear HDEC HNOD HI htk hall h2
     gi_wp2_with fail
     go_ret2
     exact ⟨rfl, HB.out⟩
   case pos =>
   have hlz : (k : Int) < (s.length : Int) := by omega
   obtain ⟨x, hx⟩ : ∃ x, s[k] = x := ⟨_, rfl⟩
   have HX := Lib.hid hx
   by_cases hdg : Lb.isDig x
   case neg =>
    have hnd : s.all Ty.dig = false := by
     rw [List.all_eq_false]
     exact ⟨x, by rw [<- hx]; exact List.getElem_mem hlt, by simp [Ty.dig]; intro h; exact Nat.lt_of_not_le fun h2 => hdg ⟨h, h2⟩⟩
    have hd := HNOD.out hnd
    cases hd
    have HDG := Lib.hid (refDigit_at x false (by simpa using hdg))
    clear hnd HDEC HNOD HI hdg
    gi_wp2_with (gi_at_call 62; first | rw [hx] | skip; refine (callsIn_wide.2 (HDG.out _)).mono ?_; rintro e w1 ⟨rfl, rfl⟩)
    go_ret2
    exact ⟨rfl, HB.out⟩
   case pos =>
   have HDG := Lib.hid (refDigit_at x true (by simpa using hdg))
   have h48 : 48 <= (x.toNat : Int) := by have := hdg.1; omega
   have h57 : (x.toNat : Int) <= 57 := by have := hdg.2; omega
   have hall : (s.take (k + 1)).all Ty.dig = true := by
    rw [List.take_succ_eq_append_getElem hlt, List.all_append, HI.out.1, hx]
    simp [Ty.dig]; exact hdg
   have hv : Ty.val (s.take (k + 1)) = 10 * Ty.val (s.take k) + (x.toNat - 48) := by rw [Ty.val_take s k hlt, hx]; rfl
   have HV := Lib.hid hv
   have HALL := Lib.hid hall
   clear hv hall hdg
   cases ov with
   | true =>
    gi_wp2_with (gi_at_call 62; first | rw [hx] | skip; refine (callsIn_wide.2 (HDG.out _)).mono ?_; rintro e w1 ⟨rfl, rfl⟩)
    exact ⟨⟨k + 1, n, true, hlt, by go_num, rfl, rfl, hn, ⟨HALL.out, ⟨fun _ => by have h1 := HI.out.2.1 rfl; have h2 := HV.out; omega, fun h => Bool.noConfusion h⟩⟩, HB.out⟩, by simp [intOf]; omega⟩
   | false =>
    gi_wp2_with fail
    first | rw [hx] | skip
    refine (callsIn_wide.2 (HDG.out _)).mono ?_
    rintro e w1 ⟨rfl, rfl⟩
    obtain ⟨hn1, hn2⟩ := HI.out.2.2 rfl
    obtain ⟨y, hy⟩ : ∃ y, x.toNat - 48 = y := ⟨_, rfl⟩
    have hyz : (x.toNat : Int) - 48 = (y : Int) := by omega
    have hxy : (x.toNat : Int) = (y : Int) + 48 := by omega
    have hy9 : y <= 9 := by omega
    have hy9z : (y : Int) <= 9 := by omega
    have hnz : (n : Int) <= 65535 := by omega
    obtain ⟨m, hm⟩ : ∃ m, 10 * n + y = m := ⟨_, rfl⟩
    have hmz : 10 * (n : Int) + (y : Int) = (m : Int) := by omega
    have hVm : Hid (Ty.val (s.take (k + 1)) = m) := by have h := HV.out; show _ = _; rw [h, <- hn1]; omega
    have HN1 := Lib.hid hn1
    clear hn1 hm hy hyz HDG
    by_cases h65 : 65535 < m
    ·have h65z : (65535 : Int) < (m : Int) := by omega
     gi_wp2_with fail
     exact ⟨⟨k + 1, m, true, hlt, by go_num, rfl, by first | rfl | rw [show decide ((65535 : Int) < (m : Int)) = true by simp; omega], by omega, ⟨HALL.out, ⟨fun _ => by rw [hVm.out]; exact h65, fun h => Bool.noConfusion h⟩⟩, HB.out⟩, by simp [intOf]; omega⟩
    ·have h65z : ¬ ((65535 : Int) < (m : Int)) := by omega
     gi_wp2_with fail
     exact ⟨⟨k + 1, m, false, hlt, by go_num, rfl, by first | rfl | rw [show decide ((65535 : Int) < (m : Int)) = false by simp; omega], by omega, ⟨HALL.out, ⟨fun h => Bool.noConfusion h, fun _ => ⟨hVm.out.symm, by omega⟩⟩⟩, HB.out⟩, by simp [intOf]; omega⟩
end Go.Proofs.YtjhibbjafjhhjaaDoor
