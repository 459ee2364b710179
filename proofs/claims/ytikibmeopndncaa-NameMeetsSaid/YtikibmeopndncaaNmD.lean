/- Names: whether they may be, in words, a star ahead. -/
import Derived.Test.YtikibmeopndncaaNmC
namespace Go.Proofs.Ytikibmeopndncaa
open Go.RowKit Go.Shelf
set_option maxRecDepth 100000

/-! ### whether it may be -/
theorem Nm.check0_step {n : List (List UInt8)} {k} (h : Nm.check0 n = Nm.check0 (n.drop k)) (hk : k < n.length) (hc : Lb.check n[k].length = 0) : Nm.check0 n = Nm.check0 (n.drop (k + 1)) := by
  rw [h, List.drop_eq_getElem_cons hk]; simp [Nm.check0, hc]
theorem Nm.check0_stop {n : List (List UInt8)} {k} (h : Nm.check0 n = Nm.check0 (n.drop k)) (hk : k < n.length) (hc : Lb.check n[k].length ≠ 0) : Nm.check n = Lb.check n[k].length := by
  have : Nm.check0 n = Lb.check n[k].length := by rw [h, List.drop_eq_getElem_cons hk]; simp [Nm.check0, hc]
  unfold Nm.check; rw [this, if_neg hc]
theorem Nm.check0_done {n : List (List UInt8)} (h : Nm.check0 n = Nm.check0 (n.drop n.length)) : Nm.check n = if 255 < Nm.len n then 3 else 0 := by
  rw [List.drop_length] at h; unfold Nm.check; rw [h]; rfl

set_option maxHeartbeats 1000000 in
theorem refCheckName_any (v : Value) (n : List (List UInt8)) (w : World) (hv : Rd v n w) (hn : NB n) :
    Calls Try.prog 20 #[v] w (Gives (.int .i64 (Nm.check n)) w) := by
  have HV := Lib.hid (show ∀ wr, Below w.heap.size w wr → Rd v n wr from fun wr hb => hv.below hb)
  obtain ⟨o, cap, rfl, h1, h2⟩ := hv.form
  have HC := Lib.hid hv.cells
  have n1 : (n.length : Int) ≤ 1000 := by have := hn.1; omega
  have GA := Lib.hid (show ∀ k (h : k < n.length), n[k].length ≤ 1000000 from fun k h => by have := hn.get h; omega)
  have HN := Lib.hid hn
  clear hv hn
  go_enter Try.func20, Try.ntmps20
  go_wp2
  go_loopw [3] (fun i wr => ∃ k : Nat, k ≤ n.length ∧ Nm.check0 n = Nm.check0 (n.drop k) ∧ i = .int .i64 k ∧ Below w.heap.size w wr) (fun i _ => n.length - (intOf i).toNat)
  case atStart => exact ⟨0, by omega, rfl, rfl, Below.refl _ _⟩
  case round =>
    obtain ⟨k, hk, hch, rfl, hb⟩ := hrel
    have HCH := Lib.hid hch
    clear hch
    by_cases hlt : k < n.length
    · obtain ⟨x, rfl, e1⟩ := HC.out _ hb k hlt
      have g2 := GA.out k hlt
      by_cases hz : Lb.check n[k].length = 0
      · have HS := Lib.hid (Nm.check0_step HCH.out hlt hz)
        have HZ := Lib.hid hz
        clear hz
        go_wp2_with fail
        refine (refCheck_any n[k] _ g2).mono ?_
        rintro e w1 ⟨rfl, rfl⟩
        rw [HZ.out]
        go_wp2_with fail
        exact ⟨⟨k + 1, by omega, HS.out, by go_num, hb⟩, by simp [intOf]; omega⟩
      · have HS := Lib.hid (Nm.check0_stop HCH.out hlt hz)
        have hz' : (Lb.check n[k].length != 0) = true := by simpa using hz
        clear hz
        go_wp2_with fail
        refine (refCheck_any n[k] _ g2).mono ?_
        rintro e w1 ⟨rfl, rfl⟩
        go_wp2_with fail
        go_ret
        exact ⟨by rw [HS.out]; rfl, hb⟩
    · obtain rfl : k = n.length := by omega
      have HS := Lib.hid (Nm.check0_done HCH.out)
      by_cases hlen : 255 < Nm.len n
      · have HL := Lib.hid (show Nm.check n = 3 by rw [HS.out, if_pos hlen])
        have hlen' : 255 < (Nm.len n : Int) := by omega
        clear hlen
        go_wp2_with fail
        refine (refLen_any _ n _ (HV.out _ hb) HN.out).mono ?_
        rintro e w1 ⟨rfl, b1⟩
        go_wp2_with fail
        go_ret
        exact ⟨by rw [HL.out]; rfl, below5 hb b1⟩
      · have HL := Lib.hid (show Nm.check n = 0 by rw [HS.out, if_neg hlen])
        have hlen' : (Nm.len n : Int) ≤ 255 := by omega
        clear hlen
        go_wp2_with fail
        refine (refLen_any _ n _ (HV.out _ hb) HN.out).mono ?_
        rintro e w1 ⟨rfl, b1⟩
        go_wp2_with fail
        go_ret
        exact ⟨by rw [HL.out]; rfl, below5 hb b1⟩

set_option maxHeartbeats 1000000 in
theorem nCheck_any (v : Value) (n : List (List UInt8)) (w : World) (hv : Rd v n w) (hn : NB n) :
    Calls Try.prog 22 #[v] w (Gives (.int .i64 (Nm.check n)) w) := by
  have HV := Lib.hid (show ∀ wr, Below w.heap.size w wr → Rd v n wr from fun wr hb => hv.below hb)
  obtain ⟨o, cap, rfl, h1, h2⟩ := hv.form
  have HC := Lib.hid hv.cells
  have n1 : (n.length : Int) ≤ 1000 := by have := hn.1; omega
  have GA := Lib.hid (show ∀ k (h : k < n.length), n[k].length ≤ 1000000 from fun k h => by have := hn.get h; omega)
  have HN := Lib.hid hn
  clear hv hn
  go_enter Try.func22, Try.ntmps22
  go_wp2
  go_loopw [8] (fun i wr => ∃ k : Nat, k ≤ n.length ∧ Nm.check0 n = Nm.check0 (n.drop k) ∧ i = .int .i64 k ∧ Below w.heap.size w wr) (fun i _ => n.length - (intOf i).toNat)
  case atStart => exact ⟨0, by omega, rfl, rfl, Below.refl _ _⟩
  case round =>
    obtain ⟨k, hk, hch, rfl, hb⟩ := hrel
    have HCH := Lib.hid hch
    clear hch
    by_cases hlt : k < n.length
    · obtain ⟨x, rfl, e1⟩ := HC.out _ hb k hlt
      have g2 := GA.out k hlt
      by_cases hz : Lb.check n[k].length = 0
      · have HS := Lib.hid (Nm.check0_step HCH.out hlt hz)
        have HZ := Lib.hid hz
        clear hz
        go_wp2_with fail
        refine (check_any n[k] _ g2).mono ?_
        rintro e w1 ⟨rfl, rfl⟩
        rw [HZ.out]
        go_wp2_with fail
        exact ⟨⟨k + 1, by omega, HS.out, by go_num, hb⟩, by simp [intOf]; omega⟩
      · have HS := Lib.hid (Nm.check0_stop HCH.out hlt hz)
        have hz' : (Lb.check n[k].length != 0) = true := by simpa using hz
        clear hz
        go_wp2_with fail
        refine (check_any n[k] _ g2).mono ?_
        rintro e w1 ⟨rfl, rfl⟩
        go_wp2_with fail
        go_ret
        exact ⟨by rw [HS.out]; rfl, hb⟩
    · obtain rfl : k = n.length := by omega
      have HS := Lib.hid (Nm.check0_done HCH.out)
      by_cases hlen : 255 < Nm.len n
      · have HL := Lib.hid (show Nm.check n = 3 by rw [HS.out, if_pos hlen])
        have hlen' : 255 < (Nm.len n : Int) := by omega
        clear hlen
        go_wp2_with fail
        refine (nLen_any _ n _ (HV.out _ hb) HN.out).mono ?_
        rintro e w1 ⟨rfl, b1⟩
        go_wp2_with fail
        go_ret
        exact ⟨by rw [HL.out]; rfl, below5 hb b1⟩
      · have HL := Lib.hid (show Nm.check n = 0 by rw [HS.out, if_neg hlen])
        have hlen' : (Nm.len n : Int) ≤ 255 := by omega
        clear hlen
        go_wp2_with fail
        refine (nLen_any _ n _ (HV.out _ hb) HN.out).mono ?_
        rintro e w1 ⟨rfl, b1⟩
        go_wp2_with fail
        go_ret
        exact ⟨by rw [HL.out]; rfl, below5 hb b1⟩

/-! ### a star ahead -/
set_option maxHeartbeats 1000000 in
theorem refWild_any (v : Value) (n : List (List UInt8)) (w : World) (hv : Rd v n w) (hn : NB n) :
    Calls Try.prog 30 #[v] w (Gives (.bool (Nm.wild n)) w) := by
  obtain ⟨o, cap, rfl, h1, h2⟩ := hv.form
  have hc := hv.cells w (Below.refl _ _)
  clear hv
  match n with
  | [] =>
    go_enter Try.func30, Try.ntmps30
    go_wp2_with fail
    go_ret
    exact ⟨rfl, Below.refl _ _⟩
  | x :: r =>
    obtain ⟨a, rfl, e1⟩ := hc 0 (by simp)
    clear hc
    replace e1 : w.cell? a = some (S x) := e1
    have hp : 0 < ((x :: r).length : Int) := by simp
    have hp1 : ((x :: r).length : Int) ≤ 1000 := by have := hn.1; omega
    clear hn
    obtain ⟨be, hbe⟩ : ∃ be, (x == [42]) = be := ⟨_, rfl⟩
    have HW := Lib.hid (show Nm.wild (x :: r) = be from hbe)
    generalize hm : (x :: r).length = m at *
    go_enter Try.func30, Try.ntmps30
    go_wp2_with fail
    go_ret
    exact ⟨by rw [HW.out, ← hbe]; rfl, Below.refl _ _⟩

set_option maxHeartbeats 1000000 in
theorem nWild_any (v : Value) (n : List (List UInt8)) (w : World) (hv : Rd v n w) (hn : NB n) :
    Calls Try.prog 29 #[v] w (Gives (.bool (Nm.wild n)) w) := by
  obtain ⟨o, cap, rfl, h1, h2⟩ := hv.form
  have hc := hv.cells w (Below.refl _ _)
  clear hv
  match n with
  | [] =>
    go_enter Try.func29, Try.ntmps29
    go_wp2_with fail
    go_ret
    exact ⟨rfl, Below.refl _ _⟩
  | x :: r =>
    obtain ⟨a, rfl, e1⟩ := hc 0 (by simp)
    clear hc
    replace e1 : w.cell? a = some (S x) := e1
    have hp : 0 < ((x :: r).length : Int) := by simp
    have hp1 : ((x :: r).length : Int) ≤ 1000 := by have := hn.1; omega
    clear hn
    obtain ⟨be, hbe⟩ : ∃ be, (x == [42]) = be := ⟨_, rfl⟩
    have HW := Lib.hid (show Nm.wild (x :: r) = be from hbe)
    generalize hm : (x :: r).length = m at *
    go_enter Try.func29, Try.ntmps29
    go_wp2_with fail
    go_ret
    exact ⟨by rw [HW.out, ← hbe]; rfl, Below.refl _ _⟩
end Go.Proofs.Ytikibmeopndncaa
