/- The walk of NameMeets. -/
import Derived.Test.YtikibmeopndncaaNmR
namespace Go.Proofs.Ytikibmeopndncaa
open Go.RowKit Go.Shelf
set_option maxRecDepth 100000

set_option maxHeartbeats 1000000 in
theorem walkNameMeets (v : Value) (a : List (List UInt8)) (u : Value) (c : List (List UInt8)) (w : World) (hv : Rd v a w) (hu : Rd u c w) :
    Calls Try.prog 14 #[v, u] w fun e w' => e = .returned (.bool true) ∧ Below w.heap.size w w' := by
  rcases hfa : Nm.few a with _ | _
  · have HFa := Lib.hid hfa
    clear hfa
    go_enter Try.func14, Try.ntmps14
    go_wp2_with fail
    refine (known_any _).mono ?_
    rintro e w1 ⟨rfl, b1⟩
    replace hv := hv.below b1
    replace hu := hu.below b1
    go_wp2_with fail
    refine (few_any _ a _ hv).mono ?_
    rintro e w2 ⟨rfl, b2⟩
    rw [HFa.out]
    replace hv := hv.below b2
    replace hu := hu.below b2
    replace b2 := below5 b1 b2
    go_wp2_with fail
    go_ret
    exact ⟨rfl, b2⟩
  obtain ⟨nna, nla⟩ := few_nb hfa
  have HFa := Lib.hid hfa
  have HNa := Lib.hid nna
  clear hfa
  rcases hfc : Nm.few c with _ | _
  · have HFc := Lib.hid hfc
    clear hfc
    go_enter Try.func14, Try.ntmps14
    go_wp2_with fail
    refine (known_any _).mono ?_
    rintro e w1 ⟨rfl, b1⟩
    replace hv := hv.below b1
    replace hu := hu.below b1
    go_wp2_with fail
    refine (few_any _ a _ hv).mono ?_
    rintro e w2 ⟨rfl, b2⟩
    rw [HFa.out]
    replace hv := hv.below b2
    replace hu := hu.below b2
    replace b2 := below5 b1 b2
    go_wp2_with fail
    refine (few_any _ c _ hu).mono ?_
    rintro e w3 ⟨rfl, b3⟩
    rw [HFc.out]
    replace hv := hv.below b3
    replace hu := hu.below b3
    replace b3 := below5 b2 b3
    go_wp2_with fail
    go_ret
    exact ⟨rfl, b3⟩
  obtain ⟨nnc, nlc⟩ := few_nb hfc
  have HFc := Lib.hid hfc
  have HNc := Lib.hid nnc
  clear hfc
  obtain ⟨m1, m2, m3, m4, m5⟩ := Nm.common_law a c
  have HNm := Lib.hid (Nm.common_nb nna c)
  obtain ⟨m, hm⟩ : ∃ m, Nm.common a c = m := ⟨_, rfl⟩
  rw [hm] at m1 m2 m3 m4 m5 HNm
  have HM := Lib.hid hm
  have M1 := Lib.hid m1
  have M2 := Lib.hid m2
  have M5 := Lib.hid m5
  have HND := Lib.hid (fun k => nna.drop k)
  clear m1 m2 m5 hm nna nnc
  obtain ⟨o, cap, rfl, h1, h2⟩ := hv.form
  obtain ⟨ou, capu, rfl, g1, g2⟩ := hu.form
  have m3' : (m.length : Int) ≤ a.length := by omega
  have m4' : (m.length : Int) ≤ c.length := by omega
  by_cases he : m.length = a.length
  · have he' : (m.length : Int) = a.length := by omega
    clear M5
    have he2 : ((m.length : Int) == a.length) = true := by rw [beq_iff_eq]; exact he'
    clear he
    go_enter Try.func14, Try.ntmps14
    go_wp2_with fail
    refine (known_any _).mono ?_
    rintro e w1 ⟨rfl, b1⟩
    replace hv := hv.below b1
    replace hu := hu.below b1
    go_wp2_with fail
    refine (few_any _ a _ hv).mono ?_
    rintro e w2 ⟨rfl, b2⟩
    rw [HFa.out]
    replace hv := hv.below b2
    replace hu := hu.below b2
    replace b2 := below5 b1 b2
    go_wp2_with fail
    refine (few_any _ c _ hu).mono ?_
    rintro e w3 ⟨rfl, b3⟩
    rw [HFc.out]
    replace hv := hv.below b3
    replace hu := hu.below b3
    replace b3 := below5 b2 b3
    go_wp2_with fail
    refine (nCommon_any _ _ a c _ hv hu HNa.out HNc.out).mono ?_
    rintro e w4 ⟨vm, rfl, hm, b4⟩
    rw [HM.out] at hm
    replace hv := hv.below b4
    replace hu := hu.below b4
    replace b4 := below5 b3 b4
    obtain ⟨om, capm, rfl, hm1, hm2⟩ := hm.form
    go_wp2_with fail
    refine (nUnder_any _ _ a m _ hv hm HNa.out HNm.out).mono ?_
    rintro e w5 ⟨rfl, b5⟩
    rw [M1.out]
    replace hv := hv.below b5
    replace hu := hu.below b5
    replace hm := hm.below b5
    replace b5 := below5 b4 b5
    go_wp2_with fail
    refine (nUnder_any _ _ c m _ hu hm HNc.out HNm.out).mono ?_
    rintro e w6 ⟨rfl, b6⟩
    rw [M2.out]
    replace hv := hv.below b6
    replace hu := hu.below b6
    replace hm := hm.below b6
    replace b6 := below5 b5 b6
    go_wp2_with fail
    go_ret
    exact ⟨rfl, b6⟩
  · have he' : (m.length : Int) < a.length := by omega
    obtain ⟨k, hk⟩ : ∃ k, a.length = m.length + 1 + k := ⟨a.length - m.length - 1, by omega⟩
    have hk' : (a.length : Int) - m.length - 1 = k := by omega
    have hka : (k : Int) < a.length := by omega
    have hkc : (k : Int) < cap := by omega
    have HK := Lib.hid (show k ≤ a.length by omega)
    have M5' := Lib.hid (show Nm.under c (a.drop k) = false by
      have := M5.out he
      rwa [show a.length - m.length - 1 = k by omega] at this)
    have he2 : ((m.length : Int) == a.length) = false := by rw [beq_eq_false_iff_ne]; omega
    clear M5 hk
    go_enter Try.func14, Try.ntmps14
    go_wp2_with fail
    refine (known_any _).mono ?_
    rintro e w1 ⟨rfl, b1⟩
    replace hv := hv.below b1
    replace hu := hu.below b1
    go_wp2_with fail
    refine (few_any _ a _ hv).mono ?_
    rintro e w2 ⟨rfl, b2⟩
    rw [HFa.out]
    replace hv := hv.below b2
    replace hu := hu.below b2
    replace b2 := below5 b1 b2
    go_wp2_with fail
    refine (few_any _ c _ hu).mono ?_
    rintro e w3 ⟨rfl, b3⟩
    rw [HFc.out]
    replace hv := hv.below b3
    replace hu := hu.below b3
    replace b3 := below5 b2 b3
    go_wp2_with fail
    refine (nCommon_any _ _ a c _ hv hu HNa.out HNc.out).mono ?_
    rintro e w4 ⟨vm, rfl, hm, b4⟩
    rw [HM.out] at hm
    replace hv := hv.below b4
    replace hu := hu.below b4
    replace b4 := below5 b3 b4
    obtain ⟨om, capm, rfl, hm1, hm2⟩ := hm.form
    go_wp2_with fail
    refine (nUnder_any _ _ a m _ hv hm HNa.out HNm.out).mono ?_
    rintro e w5 ⟨rfl, b5⟩
    rw [M1.out]
    replace hv := hv.below b5
    replace hu := hu.below b5
    replace hm := hm.below b5
    replace b5 := below5 b4 b5
    go_wp2_with fail
    refine (nUnder_any _ _ c m _ hu hm HNc.out HNm.out).mono ?_
    rintro e w6 ⟨rfl, b6⟩
    rw [M2.out]
    replace hv := hv.below b6
    replace hu := hu.below b6
    replace hm := hm.below b6
    replace b6 := below5 b5 b6
    go_wp2_with fail
    refine (nUnder_any _ _ c (a.drop k) _ hu (hv.tail k HK.out) HNc.out (HND.out k)).mono ?_
    rintro e w7 ⟨rfl, b7⟩
    rw [M5'.out]
    replace hv := hv.below b7
    replace hu := hu.below b7
    replace hm := hm.below b7
    replace b7 := below5 b6 b7
    go_wp2_with fail
    go_ret
    exact ⟨rfl, b7⟩
end Go.Proofs.Ytikibmeopndncaa
