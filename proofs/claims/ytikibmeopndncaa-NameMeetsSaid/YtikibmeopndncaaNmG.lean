/- Names: where two meet. -/
import Derived.Test.YtikibmeopndncaaNmF
namespace Go.Proofs.Ytikibmeopndncaa
open Go.RowKit Go.Shelf
set_option maxRecDepth 100000

theorem Nm.under_nil (b : List (List UInt8)) : Nm.under b [] = true := by simp [Nm.under, Nm.same, Nm.fold]
structure Nm.CoAt (a b : List (List UInt8)) (k : Nat) : Prop where
  le : k ≤ a.length
  eq : Nm.common a b = Nm.common (a.drop k) b
theorem Nm.CoAt.start (a b : List (List UInt8)) : Nm.CoAt a b 0 := ⟨by omega, rfl⟩
theorem Nm.CoAt.go {a b : List (List UInt8)} {k} (h : Nm.CoAt a b k) (hk : k < a.length) (hu : Nm.under b (a.drop k) = false) : Nm.CoAt a b (k + 1) := by
  refine ⟨hk, ?_⟩
  rw [h.eq]
  rw [List.drop_eq_getElem_cons hk] at hu ⊢
  rw [Nm.common, if_neg (by rw [hu]; decide)]
theorem Nm.CoAt.at {a b : List (List UInt8)} {k} (h : Nm.CoAt a b k) (hu : Nm.under b (a.drop k) = true) : Nm.common a b = a.drop k := by
  rw [h.eq]
  rcases hd : a.drop k with _ | ⟨x, r⟩
  · rfl
  · rw [hd] at hu; rw [Nm.common, if_pos hu]
theorem Nm.CoAt.end {a b : List (List UInt8)} {k} (h : Nm.CoAt a b k) (hk : ¬ k < a.length) : Nm.common a b = a.drop k := by
  rw [h.eq, List.drop_of_length_le (by omega)]; rfl

set_option maxHeartbeats 1000000 in
theorem refCommon_any (v u : Value) (a b : List (List UInt8)) (w : World) (hv : Rd v a w) (hu : Rd u b w) (ha : NB a) (hb : NB b) :
    Calls Try.prog 40 #[v, u] w (RdOf (Nm.common a b) w) := by
  have HV := Lib.hid (show ∀ wr, Below w.heap.size w wr → Rd v a wr from fun wr hb => hv.below hb)
  have HU := Lib.hid (show ∀ wr, Below w.heap.size w wr → Rd u b wr from fun wr hb => hu.below hb)
  obtain ⟨o, cap, rfl, h1, h2⟩ := hv.form
  obtain ⟨o', cap', rfl, h1', h2'⟩ := hu.form
  have na : (a.length : Int) ≤ 1000 := by have := ha.1; omega
  have nb : (b.length : Int) ≤ 1000 := by have := hb.1; omega
  have HA := Lib.hid ha
  have HB := Lib.hid hb
  clear hv hu ha hb
  go_enter Try.func40, Try.ntmps40
  go_wp2
  go_loopw [5] (fun i wr => ∃ k : Nat, Nm.CoAt a b k ∧ i = .int .i64 k ∧ Below w.heap.size w wr) (fun i _ => a.length - (intOf i).toNat)
  case atStart => exact ⟨0, Nm.CoAt.start a b, rfl, Below.refl _ _⟩
  case round =>
    obtain ⟨k, hc, rfl, hb⟩ := hrel
    have hk := hc.le
    have HCO := Lib.hid hc
    have HT0 := Lib.hid (fun hc => (HV.out _ hb).tail0 k hk hc)
    have HT := Lib.hid ((HV.out _ hb).tail k hk)
    have HBU := Lib.hid (HU.out _ hb)
    clear hc
    have hk' : (k : Int) ≤ a.length := by omega
    rcases hun : Nm.under b (a.drop k) with _ | _
    · have hlt : k < a.length := by
        rcases Nat.lt_or_ge k a.length with h | h
        · exact h
        · rw [List.drop_of_length_le h, Nm.under_nil] at hun; cases hun
      have HG := Lib.hid (HCO.out.go hlt hun)
      have HUN := Lib.hid hun
      clear hun
      go_wp2_with fail
      · refine (refUnder_any _ _ b (a.drop k) _ HBU.out HT.out HB.out (HA.out.drop k)).mono ?_
        rintro e w1 ⟨rfl, b1⟩
        rw [HUN.out]
        go_wp2_with fail
        exact ⟨⟨k + 1, HG.out, by go_num, below5 hb b1⟩, by simp [intOf]; omega⟩
    · have HG := Lib.hid (HCO.out.at hun)
      have HUN := Lib.hid hun
      clear hun
      go_wp2_with fail
      · have hcap : cap = k := by omega
        refine (refUnder_any _ _ b (a.drop k) _ HBU.out (HT0.out hcap) HB.out (HA.out.drop k)).mono ?_
        rintro e w1 ⟨rfl, b1⟩
        rw [HUN.out]
        go_wp2_with fail
        go_ret
        exact ⟨_, rfl, by rw [HG.out]; exact (HT0.out hcap).below b1, below5 hb b1⟩
      · refine (refUnder_any _ _ b (a.drop k) _ HBU.out HT.out HB.out (HA.out.drop k)).mono ?_
        rintro e w1 ⟨rfl, b1⟩
        rw [HUN.out]
        go_wp2_with fail
        go_ret
        exact ⟨_, rfl, by rw [HG.out]; exact HT.out.below b1, below5 hb b1⟩

set_option maxHeartbeats 1000000 in
theorem nCommon_any (v u : Value) (a b : List (List UInt8)) (w : World) (hv : Rd v a w) (hu : Rd u b w) (ha : NB a) (hb : NB b) :
    Calls Try.prog 39 #[v, u] w (RdOf (Nm.common a b) w) := by
  have HV := Lib.hid (show ∀ wr, Below w.heap.size w wr → Rd v a wr from fun wr hb => hv.below hb)
  have HU := Lib.hid (show ∀ wr, Below w.heap.size w wr → Rd u b wr from fun wr hb => hu.below hb)
  obtain ⟨o, cap, rfl, h1, h2⟩ := hv.form
  obtain ⟨o', cap', rfl, h1', h2'⟩ := hu.form
  have na : (a.length : Int) ≤ 1000 := by have := ha.1; omega
  have nb : (b.length : Int) ≤ 1000 := by have := hb.1; omega
  have HA := Lib.hid ha
  have HB := Lib.hid hb
  clear hv hu ha hb
  go_enter Try.func39, Try.ntmps39
  go_wp2
  go_loopw [5] (fun i wr => ∃ k : Nat, Nm.CoAt a b k ∧ i = .int .i64 k ∧ Below w.heap.size w wr) (fun i _ => a.length - (intOf i).toNat)
  case atStart => exact ⟨0, Nm.CoAt.start a b, rfl, Below.refl _ _⟩
  case round =>
    obtain ⟨k, hc, rfl, hb⟩ := hrel
    have hk := hc.le
    have HCO := Lib.hid hc
    have HT0 := Lib.hid (fun hc => (HV.out _ hb).tail0 k hk hc)
    have HT := Lib.hid ((HV.out _ hb).tail k hk)
    have HBU := Lib.hid (HU.out _ hb)
    clear hc
    have hk' : (k : Int) ≤ a.length := by omega
    by_cases hlt : k < a.length
    · rcases hun : Nm.under b (a.drop k) with _ | _
      · have HG := Lib.hid (HCO.out.go hlt hun)
        have HUN := Lib.hid hun
        clear hun
        go_wp2_with fail
        · refine (nUnder_any _ _ b (a.drop k) _ HBU.out HT.out HB.out (HA.out.drop k)).mono ?_
          rintro e w1 ⟨rfl, b1⟩
          rw [HUN.out]
          go_wp2_with fail
          exact ⟨⟨k + 1, HG.out, by go_num, below5 hb b1⟩, by simp [intOf]; omega⟩
      · have HG := Lib.hid (HCO.out.at hun)
        have HUN := Lib.hid hun
        clear hun
        go_wp2_with fail
        · refine (nUnder_any _ _ b (a.drop k) _ HBU.out HT.out HB.out (HA.out.drop k)).mono ?_
          rintro e w1 ⟨rfl, b1⟩
          rw [HUN.out]
          go_wp2_with fail
          refine (clone_any _ (a.drop k) _ (HT.out.below b1) (HA.out.drop k)).mono ?_
          rintro e w2 ⟨v2, rfl, hr2, b2⟩
          go_wp2_with fail
          refine (clip_any _ _ _ hr2.rdOf (HA.out.drop k)).mono ?_
          rintro e w3 ⟨v3, rfl, hr3, rfl⟩
          go_wp2_with fail
          go_ret
          exact ⟨_, rfl, by rw [HG.out]; exact hr3, below5 (below5 hb b1) b2⟩
    · have HG := Lib.hid (HCO.out.end hlt)
      go_wp2_with fail
      · have hcap : cap = k := by omega
        refine (clone_any _ (a.drop k) _ (HT0.out hcap) (HA.out.drop k)).mono ?_
        rintro e w2 ⟨v2, rfl, hr2, b2⟩
        go_wp2_with fail
        refine (clip_any _ _ _ hr2.rdOf (HA.out.drop k)).mono ?_
        rintro e w3 ⟨v3, rfl, hr3, rfl⟩
        go_wp2_with fail
        go_ret
        exact ⟨_, rfl, by rw [HG.out]; exact hr3, below5 hb b2⟩
      · refine (clone_any _ (a.drop k) _ HT.out (HA.out.drop k)).mono ?_
        rintro e w2 ⟨v2, rfl, hr2, b2⟩
        go_wp2_with fail
        refine (clip_any _ _ _ hr2.rdOf (HA.out.drop k)).mono ?_
        rintro e w3 ⟨v3, rfl, hr3, rfl⟩
        go_wp2_with fail
        go_ret
        exact ⟨_, rfl, by rw [HG.out]; exact hr3, below5 hb b2⟩
end Go.Proofs.Ytikibmeopndncaa
