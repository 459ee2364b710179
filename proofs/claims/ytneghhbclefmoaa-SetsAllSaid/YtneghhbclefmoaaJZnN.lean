/- The walk of ZoneWays. -/
import Derived.Test.YtneghhbclefmoaaJZnM
namespace Go.Proofs.Ytneghhbclefmoaa
open Go.RowKit Go.Shelf Go.Sort
set_option maxRecDepth 100000

def Tr (w : World) (e : Ending) (w' : World) : Prop := e = .returned (.bool true) ∧ Below w.heap.size w w'
set_option maxHeartbeats 3000000 in
theorem walkZoneWays (v0 : Value) (l0 : List (List UInt8)) (v1 : Value) (l1 : List RP) (v2 : Value) (l2 : List (List UInt8)) (w : World) (h0 : Rd v0 l0 w) (h1 : RecsRd v1 l1 w ∧ ∀ x ∈ l1, RN x.2) (h2 : Rd v2 l2 w) :
    Calls Try.prog 3 #[v0, v1, v2] w (Tr w) := by
  obtain ⟨h1, hrn⟩ := h1
  obtain ⟨oo, co, rfl, ob1, ob2⟩ := h0.form
  obtain ⟨on, cn, rfl, nb1, nb2⟩ := h2.form
  have HO := Lib.hid h0
  have HV := Lib.hid h1
  have HN := Lib.hid h2
  have HRN := Lib.hid hrn
  clear h0 h1 h2 hrn
  go_enter Try.func3, Try.ntmps3
  go_wp2_with fail
  refine (known12_any _).mono ?_
  rintro e w1 ⟨rfl, b1⟩
  have HG := Lib.hid (good12_any _ _ l0 l1 w1 (HO.out.below b1) (HV.out.kept b1))
  have HB1 := Lib.hid b1
  clear b1
  go_wp2_with fail
  refine HG.out.mono ?_
  rintro e w2 ⟨b, rfl, hq, b2⟩
  have HB2 := Lib.hid (below5 HB1.out b2)
  have HQ := Lib.hid hq
  clear HG b2 hq
  cases b with
  | false =>
    go_wp2_with fail
    go_ret
    exact ⟨rfl, HB2.out⟩
  | true =>
  obtain ⟨hgo, hrf⟩ := HQ.out rfl
  obtain ⟨nbo, lo140, _, _⟩ := Nm.good2_parts hgo
  have HRF := Lib.hid hrf
  have NBO := Lib.hid nbo
  have HG2 := Lib.hid (good2_any _ l2 w2 (HN.out.below HB2.out))
  obtain ⟨bz, hbz⟩ : ∃ bz, Nm.good2 l2 = bz := ⟨_, rfl⟩
  have HBZ := Lib.hid hbz
  rw [hbz] at HG2
  clear hgo hrf nbo hbz HQ
  go_wp2_with fail
  refine HG2.out.mono ?_
  rintro e w3 ⟨rfl, b3⟩
  have HB3 := Lib.hid (below5 HB2.out b3)
  clear HG2 b3
  cases bz with
  | false =>
    go_wp2_with fail
    go_ret
    exact ⟨rfl, HB3.out⟩
  | true =>
  obtain ⟨nbn, ln140, _, _⟩ := Nm.good2_parts HBZ.out
  have NBN := Lib.hid nbn
  have HU := Lib.hid (nUnder_any _ _ l2 l0 w3 (HN.out.below HB3.out) (HO.out.below HB3.out) nbn NBO.out)
  obtain ⟨bu, hbu⟩ : ∃ bu, Nm.under l2 l0 = bu := ⟨_, rfl⟩
  have HBU := Lib.hid hbu
  rw [hbu] at HU
  clear nbn hbu
  go_wp2_with fail
  refine HU.out.mono ?_
  rintro e w4 ⟨rfl, b4⟩
  have HB4 := Lib.hid (below5 HB3.out b4)
  clear HU b4
  cases bu with
  | false =>
    go_wp2_with fail
    go_ret
    exact ⟨rfl, HB4.out⟩
  | true =>
  have hrk := HV.out.kept HB4.out
  obtain ⟨L, hL, hL60, hLl⟩ := els_of hrk HRF.out HRN.out
  have hrec : RecsRd v1 (L.map (·.1)) w4 := by rw [hL]; exact hrk
  have HNEW := Lib.hid (zNew_any oo l0.length co v1 L hrec (by omega))
  clear hrk hrec hL
  go_wp2_with fail
  refine HNEW.out.mono ?_
  rintro e w5 ⟨v5, l5, rfl, hr5, hp5, hn5, b5⟩
  obtain ⟨o5, c5, rfl⟩ : ∃ o cap, v5 = .slice o l5.length cap := by obtain ⟨_, o, cap, h, _⟩ := hr5; exact ⟨o, cap, by rw [h, List.length_map]⟩
  have na : l5.length ≤ 1000 := by omega
  have hle := Nm.under_le' HBU.out
  obtain ⟨Wx, hWx⟩ : ∃ W, w5.alloc (.cells #[.slice none 0 0, .slice none 0 0] 30) = W := ⟨_, rfl⟩
  have kx : Blk w5.heap.size #[.slice none 0 0, .slice none 0 0] 30 Wx := by rw [← hWx]; exact Blk.new w5 _ _
  have g0 : Wx.cell? ⟨w5.heap.size, 0, none⟩ = some _ := kx.cell 0
  have g1 : Wx.cell? ⟨w5.heap.size, 1, none⟩ = some _ := kx.cell 1
  have f0 := kx.frozen 0
  have f1 := kx.frozen 1
  obtain ⟨Wy, hWy⟩ : ∃ W, (Wx.setCell ⟨w5.heap.size, 0, none⟩ (.slice oo l0.length co)).setCell ⟨w5.heap.size, 1, none⟩ (.slice o5 l5.length c5) = W := ⟨_, rfl⟩
  have ky : Blk w5.heap.size #[.slice oo l0.length co, .slice o5 l5.length c5] 30 Wy := by rw [← hWy]; exact (kx.setAt 0 _).setAt 1 _
  have bwy : Below w5.heap.size w5 Wy := by rw [← hWy, ← hWx]; exact (((Below.refl _ _).alloc (Nat.le_refl _) _).setCell (p := ⟨w5.heap.size, 0, none⟩) (Nat.le_refl _) _).setCell (p := ⟨w5.heap.size, 1, none⟩) (Nat.le_refl _) _
  have HZ := Lib.hid ky
  have HB45 := Lib.hid (below5 b5 bwy)
  have HBY := Lib.hid (below5 HB4.out (below5 b5 bwy))
  have HRY := Lib.hid (hr5.kept bwy)
  have HOY := Lib.hid (HO.out.below HBY.out)
  have HNY := Lib.hid (HN.out.below HBY.out)
  have x0a : Wy.cell? ⟨w5.heap.size, 0, none⟩ = some _ := ky.cell 0
  have x0b : Wy.cell? ⟨w5.heap.size, 1, none⟩ = some _ := ky.cell 1
  obtain ⟨K, hK⟩ : ∃ K, plE l5 = K := ⟨_, rfl⟩
  have HK := Lib.hid hK
  clear hr5 kx ky bwy b5 HNEW hK hp5 hn5
  have HC1 := Lib.hid (zCutOf_any (w0 := Wy) (.slice oo l0.length co) (.slice o5 l5.length c5) (.slice on l2.length cn) l5 l0 l2 (below5 HB45.out (Below.refl _ _)) (HRY.out.kept (Below.refl _ _)) na (HOY.out.below (Below.refl _ _)) NBO.out HNY.out NBN.out)
  rw [HK.out] at HC1
  clear HB1 HB2 HB3
  go_wp2_with fail
  refine HC1.out.mono ?_
  rintro e w6 ⟨v6, rfl, h6r, t6⟩
  clear HC1 hWx hWy g0 g1 f0 f1 x0a x0b
  have x6a : w6.cell? ⟨w5.heap.size, 0, none⟩ = some _ := (HZ.out.below t6).cell 0
  have x6b : w6.cell? ⟨w5.heap.size, 1, none⟩ = some _ := (HZ.out.below t6).cell 1
  obtain ⟨o6, c6, rfl, _, _⟩ := h6r.form
  obtain ⟨lc, hlc⟩ : ∃ lc, (Zn.cut l0 K l2).length = lc := ⟨_, rfl⟩
  rw [hlc] at h6r ⊢
  have H6R := Lib.hid h6r
  have HW6 := Lib.hid (zWhere_any (w0 := w6) (.slice oo l0.length co) (.slice o5 l5.length c5) (.slice on l2.length cn) l5 l0 l2 (below5 HB45.out t6) (HRY.out.kept t6) na (HOY.out.below t6) NBO.out (HNY.out.below t6) NBN.out)
  rw [HK.out] at HW6
  clear h6r
  rcases hc : Zn.cutAt l0 K l2 with _ | k
  · skip
    have hcn := Zn.cut_none hc
    have hw := Zn.wher_none HBU.out hc
    rw [hcn.1]
    rw [hw] at HW6

    have HCT := Lib.hid hc
    clear hc hlc
    go_wp2_with fail
    refine HW6.out.mono ?_
    rintro e w7 ⟨rfl, b7⟩
    have t7 := below5 t6 b7
    have H6R7 := Lib.hid (H6R.out.below b7)
    have HT7 := Lib.hid t7
    clear HW6 x6a x6b b7 t6 H6R
    obtain ⟨d, hd⟩ : ∃ d, l2.length - l0.length = d := ⟨_, rfl⟩
    have hdz : (l2.length : Int) - (l0.length : Int) = (d : Int) := by omega
    have hd1 : d + l0.length = l2.length := by omega
    have hn1 : (l2.length : Int) ≤ 140 := by omega
    have ho1 : (l0.length : Int) ≤ 140 := by omega
    go_wp2
    go_loopw [11, 12] (fun i _ wr => ∃ i' : Nat, i' ≤ d + 1 ∧ i = .int .i64 i' ∧ Below w7.heap.size w7 wr) (fun i _ _ => d + 1 - (intOf i).toNat)
    case atStart => exact ⟨0, by omega, rfl, Below.refl _ _⟩
    case round =>
      obtain ⟨i, hi, rfl, sb⟩ := hrel
      have tb := below5 HT7.out sb
      have xa : wr.cell? ⟨w5.heap.size, 0, none⟩ = some _ := (HZ.out.below tb).cell 0
      have xb : wr.cell? ⟨w5.heap.size, 1, none⟩ = some _ := (HZ.out.below tb).cell 1
      by_cases hlt : i ≤ d
      · have hlz : (i : Int) ≤ (d : Int) := by omega
        have hin : (i : Int) ≤ (l2.length : Int) := by omega
        have HT0 := Lib.hid (fun hc => (HNY.out.below tb).tail0 i (by omega) hc)
        have HT1 := Lib.hid ((HNY.out.below tb).tail i (by omega))
        have HEX := Lib.hid (zExists_any (w0 := wr) (.slice oo l0.length co) (.slice o5 l5.length c5) (.slice on l2.length cn) l5 l0 l2 (below5 HB45.out tb) (HRY.out.kept tb) na (HOY.out.below tb) NBO.out (HNY.out.below tb) NBN.out)
        rw [HK.out] at HEX
        have hml : (l2.drop i).length = l2.length - i := by simp
        obtain ⟨m, hm⟩ : ∃ m, l2.drop i = m := ⟨_, rfl⟩
        obtain ⟨ml, hmll⟩ : ∃ ml, l2.length - i = ml := ⟨_, rfl⟩
        rw [hm, hmll] at hml HT0 HT1
        have HML := Lib.hid hmll
        have NBM := Lib.hid (show NB m by rw [← hm]; exact NBN.out.drop i)
        have HEXD := Lib.hid (show Zn.exi l0 K l2 = true → Zn.exi l0 K m = true from fun h => by rw [← hm]; exact Zn.exi_drop (by omega) h)
        have HTB := Lib.hid sb
        clear hm tb sb
        go_wp2_with fail
        · have hci : cn = i := by assumption
          subst hci
          have hrm := HT0.out rfl
          clear HT0 HT1
          refine HEX.out.mono ?_
          rintro e w8 ⟨rfl, b8⟩
          have s8 := below5 HTB.out b8
          have t8 := below5 HT7.out s8
          have ya : w8.cell? ⟨w5.heap.size, 0, none⟩ = some _ := (HZ.out.below t8).cell 0
          have yb : w8.cell? ⟨w5.heap.size, 1, none⟩ = some _ := (HZ.out.below t8).cell 1
          have hrm8 := hrm.below b8
          obtain ⟨om, cm, hvm, _, _⟩ := hrm8.form
          rw [hml] at hvm
          have HEM := Lib.hid (zExists_any (w0 := w8) (.slice oo l0.length co) (.slice o5 l5.length c5) (.slice on ml 0) l5 l0 m (below5 HB45.out t8) (HRY.out.kept t8) na (HOY.out.below t8) NBO.out hrm8 NBM.out)
          rw [HK.out] at HEM
          have HRM8 := Lib.hid hrm8
          have HT8 := Lib.hid s8
          clear HEX xa xb hrm hrm8 b8 t8 s8
          obtain ⟨be, hbe⟩ : ∃ be, Zn.exi l0 K l2 = be := ⟨_, rfl⟩
          rw [hbe]
          cases be with
          | true =>
            rw [HEXD.out hbe] at HEM
            clear hbe HEXD
            go_wp2_with fail
            refine HEM.out.mono ?_
            rintro e w9 ⟨rfl, b9⟩
            have s9 := below5 HT8.out b9
            have t9 := below5 HT7.out s9
            have za : w9.cell? ⟨w5.heap.size, 0, none⟩ = some _ := (HZ.out.below t9).cell 0
            have zb : w9.cell? ⟨w5.heap.size, 1, none⟩ = some _ := (HZ.out.below t9).cell 1
            have HRM9 := Lib.hid (HRM8.out.below b9)
            clear HEM ya yb b9
            go_wp2_with fail
            exact ⟨⟨cn + 1, by omega, by go_num, s9⟩, by simp [intOf]; omega⟩
          | false =>
            clear hbe HEXD HEM
            have s9 := HT8.out
            have t9 := below5 HT7.out s9
            have za := ya
            have zb := yb
            have HRM9 := HRM8
            clear ya yb
            go_wp2_with fail
            exact ⟨⟨cn + 1, by omega, by go_num, s9⟩, by simp [intOf]; omega⟩
        · have hrm := HT1.out
          clear HT0 HT1
          refine HEX.out.mono ?_
          rintro e w8 ⟨rfl, b8⟩
          have s8 := below5 HTB.out b8
          have t8 := below5 HT7.out s8
          have ya : w8.cell? ⟨w5.heap.size, 0, none⟩ = some _ := (HZ.out.below t8).cell 0
          have yb : w8.cell? ⟨w5.heap.size, 1, none⟩ = some _ := (HZ.out.below t8).cell 1
          have hrm8 := hrm.below b8
          obtain ⟨om, cm, hvm, _, _⟩ := hrm8.form
          rw [hml] at hvm
          have HEM := Lib.hid (zExists_any (w0 := w8) (.slice oo l0.length co) (.slice o5 l5.length c5) (.slice (on.map (·.add i)) ml (cn - i)) l5 l0 m (below5 HB45.out t8) (HRY.out.kept t8) na (HOY.out.below t8) NBO.out hrm8 NBM.out)
          rw [HK.out] at HEM
          have HRM8 := Lib.hid hrm8
          have HT8 := Lib.hid s8
          clear HEX xa xb hrm hrm8 b8 t8 s8
          obtain ⟨be, hbe⟩ : ∃ be, Zn.exi l0 K l2 = be := ⟨_, rfl⟩
          rw [hbe]
          cases be with
          | true =>
            rw [HEXD.out hbe] at HEM
            clear hbe HEXD
            go_wp2_with fail
            refine HEM.out.mono ?_
            rintro e w9 ⟨rfl, b9⟩
            have s9 := below5 HT8.out b9
            have t9 := below5 HT7.out s9
            have za : w9.cell? ⟨w5.heap.size, 0, none⟩ = some _ := (HZ.out.below t9).cell 0
            have zb : w9.cell? ⟨w5.heap.size, 1, none⟩ = some _ := (HZ.out.below t9).cell 1
            have HRM9 := Lib.hid (HRM8.out.below b9)
            clear HEM ya yb b9
            go_wp2_with fail
            exact ⟨⟨i + 1, by omega, by go_num, s9⟩, by simp [intOf]; omega⟩
          | false =>
            clear hbe HEXD HEM
            have s9 := HT8.out
            have t9 := below5 HT7.out s9
            have za := ya
            have zb := yb
            have HRM9 := HRM8
            clear ya yb
            go_wp2_with fail
            exact ⟨⟨i + 1, by omega, by go_num, s9⟩, by simp [intOf]; omega⟩
      · have hlz : ¬ (i : Int) ≤ (d : Int) := by omega
        have TB := Lib.hid sb
        clear tb sb
        go_wp2
        go_ret
        exact ⟨rfl, below5 HBY.out (below5 HT7.out TB.out)⟩
  · skip
    have hcs := Zn.cut_some hc
    have hks := Zn.cutAt_some hc
    rw [hcs.1]
    obtain ⟨wv, hwv⟩ : ∃ wv, Zn.wher l0 K l2 = wv := ⟨_, rfl⟩
    rw [hwv] at HW6
    have hwi := Zn.wher_is hc
    rw [hwv] at hwi
    have hlck : lc = l2.length - k := by rw [← hlc, hcs.2]; simp
    rw [hcs.2] at H6R
    have HWV := Lib.hid hwi
    have HKS := Lib.hid hks
    have HLK := Lib.hid hlck
    clear hcs hks hwv hwi hlck

    have HCT := Lib.hid hc
    clear hc hlc
    go_wp2_with fail
    refine HW6.out.mono ?_
    rintro e w7 ⟨rfl, b7⟩
    have t7 := below5 t6 b7
    have H6R7 := Lib.hid (H6R.out.below b7)
    have HT7 := Lib.hid t7
    clear HW6 x6a x6b b7 t6 H6R
    obtain ⟨d, hd⟩ : ∃ d, l2.length - l0.length = d := ⟨_, rfl⟩
    have hdz : (l2.length : Int) - (l0.length : Int) = (d : Int) := by omega
    have hd1 : d + l0.length = l2.length := by omega
    have hn1 : (l2.length : Int) ≤ 140 := by omega
    have ho1 : (l0.length : Int) ≤ 140 := by omega
    go_wp2
    go_loopw [11, 12] (fun i _ wr => ∃ i' : Nat, i' ≤ d + 1 ∧ i = .int .i64 i' ∧ Below w7.heap.size w7 wr) (fun i _ _ => d + 1 - (intOf i).toNat)
    case atStart => exact ⟨0, by omega, rfl, Below.refl _ _⟩
    case round =>
      obtain ⟨i, hi, rfl, sb⟩ := hrel
      have tb := below5 HT7.out sb
      have xa : wr.cell? ⟨w5.heap.size, 0, none⟩ = some _ := (HZ.out.below tb).cell 0
      have xb : wr.cell? ⟨w5.heap.size, 1, none⟩ = some _ := (HZ.out.below tb).cell 1
      by_cases hlt : i ≤ d
      · have hlz : (i : Int) ≤ (d : Int) := by omega
        have hin : (i : Int) ≤ (l2.length : Int) := by omega
        have HT0 := Lib.hid (fun hc => (HNY.out.below tb).tail0 i (by omega) hc)
        have HT1 := Lib.hid ((HNY.out.below tb).tail i (by omega))
        have HEX := Lib.hid (zExists_any (w0 := wr) (.slice oo l0.length co) (.slice o5 l5.length c5) (.slice on l2.length cn) l5 l0 l2 (below5 HB45.out tb) (HRY.out.kept tb) na (HOY.out.below tb) NBO.out (HNY.out.below tb) NBN.out)
        rw [HK.out] at HEX
        have hml : (l2.drop i).length = l2.length - i := by simp
        obtain ⟨m, hm⟩ : ∃ m, l2.drop i = m := ⟨_, rfl⟩
        obtain ⟨ml, hmll⟩ : ∃ ml, l2.length - i = ml := ⟨_, rfl⟩
        rw [hm, hmll] at hml HT0 HT1
        have HML := Lib.hid hmll
        have NBM := Lib.hid (show NB m by rw [← hm]; exact NBN.out.drop i)
        have HEXD := Lib.hid (show Zn.exi l0 K l2 = true → Zn.exi l0 K m = true from fun h => by rw [← hm]; exact Zn.exi_drop (by omega) h)
        have HWA := Lib.hid (show ¬ ml < lc ∨ Zn.wher l0 K m = 1 from by
          by_cases hki : k < i
          · right; rw [← hm]; exact Zn.wher_above HCT.out (by omega) hki
          · left; have h1 := HLK.out; omega)
        have HTB := Lib.hid sb
        clear hm tb sb
        go_wp2_with fail
        · have hci : cn = i := by assumption
          subst hci
          have hrm := HT0.out rfl
          clear HT0 HT1
          refine HEX.out.mono ?_
          rintro e w8 ⟨rfl, b8⟩
          have s8 := below5 HTB.out b8
          have t8 := below5 HT7.out s8
          have ya : w8.cell? ⟨w5.heap.size, 0, none⟩ = some _ := (HZ.out.below t8).cell 0
          have yb : w8.cell? ⟨w5.heap.size, 1, none⟩ = some _ := (HZ.out.below t8).cell 1
          have hrm8 := hrm.below b8
          obtain ⟨om, cm, hvm, _, _⟩ := hrm8.form
          rw [hml] at hvm
          have HEM := Lib.hid (zExists_any (w0 := w8) (.slice oo l0.length co) (.slice o5 l5.length c5) (.slice on ml 0) l5 l0 m (below5 HB45.out t8) (HRY.out.kept t8) na (HOY.out.below t8) NBO.out hrm8 NBM.out)
          rw [HK.out] at HEM
          have HRM8 := Lib.hid hrm8
          have HT8 := Lib.hid s8
          clear HEX xa xb hrm hrm8 b8 t8 s8
          obtain ⟨be, hbe⟩ : ∃ be, Zn.exi l0 K l2 = be := ⟨_, rfl⟩
          rw [hbe]
          cases be with
          | true =>
            rw [HEXD.out hbe] at HEM
            clear hbe HEXD
            go_wp2_with fail
            refine HEM.out.mono ?_
            rintro e w9 ⟨rfl, b9⟩
            have s9 := below5 HT8.out b9
            have t9 := below5 HT7.out s9
            have za : w9.cell? ⟨w5.heap.size, 0, none⟩ = some _ := (HZ.out.below t9).cell 0
            have zb : w9.cell? ⟨w5.heap.size, 1, none⟩ = some _ := (HZ.out.below t9).cell 1
            have HRM9 := Lib.hid (HRM8.out.below b9)
            clear HEM ya yb b9
            by_cases hlk : ml < lc
            · have hwa : Zn.wher l0 K m = 1 := by rcases HWA.out with h | h; exact absurd hlk h; exact h
              have hlk1 : (ml : Int) < (lc : Int) := by omega
              have hlk2 : decide ((ml : Int) < (lc : Int)) = true := by simp; omega
              have hlk3 : decide (ml < lc) = true := by simp; omega
              have HWM := Lib.hid (zWhere_any (w0 := w9) (.slice oo l0.length co) (.slice o5 l5.length c5) (.slice on ml 0) l5 l0 m (below5 HB45.out t9) (HRY.out.kept t9) na (HOY.out.below t9) NBO.out HRM9.out NBM.out)
              rw [HK.out, hwa] at HWM
              have T9 := Lib.hid s9
              clear hwa HWA t9 s9
              go_wp2_with fail
              refine HWM.out.mono ?_
              rintro e w10 ⟨rfl, b10⟩
              have t10 := below5 T9.out b10
              clear b10 HWM
              go_wp2_with fail
              exact ⟨⟨cn + 1, by omega, by go_num, t10⟩, by simp [intOf]; omega⟩
            · have hlk1 : ¬ (ml : Int) < (lc : Int) := by omega
              have hlk2 : decide ((ml : Int) < (lc : Int)) = false := by simp; omega
              have hlk3 : decide (ml < lc) = false := by simp; omega
              go_wp2_with fail
              exact ⟨⟨cn + 1, by omega, by go_num, s9⟩, by simp [intOf]; omega⟩
          | false =>
            clear hbe HEXD HEM
            have s9 := HT8.out
            have t9 := below5 HT7.out s9
            have za := ya
            have zb := yb
            have HRM9 := HRM8
            clear ya yb
            by_cases hlk : ml < lc
            · have hwa : Zn.wher l0 K m = 1 := by rcases HWA.out with h | h; exact absurd hlk h; exact h
              have hlk1 : (ml : Int) < (lc : Int) := by omega
              have hlk2 : decide ((ml : Int) < (lc : Int)) = true := by simp; omega
              have hlk3 : decide (ml < lc) = true := by simp; omega
              have HWM := Lib.hid (zWhere_any (w0 := w8) (.slice oo l0.length co) (.slice o5 l5.length c5) (.slice on ml 0) l5 l0 m (below5 HB45.out t9) (HRY.out.kept t9) na (HOY.out.below t9) NBO.out HRM9.out NBM.out)
              rw [HK.out, hwa] at HWM
              have T9 := Lib.hid s9
              clear hwa HWA t9 s9
              go_wp2_with fail
              refine HWM.out.mono ?_
              rintro e w10 ⟨rfl, b10⟩
              have t10 := below5 T9.out b10
              clear b10 HWM
              go_wp2_with fail
              exact ⟨⟨cn + 1, by omega, by go_num, t10⟩, by simp [intOf]; omega⟩
            · have hlk1 : ¬ (ml : Int) < (lc : Int) := by omega
              have hlk2 : decide ((ml : Int) < (lc : Int)) = false := by simp; omega
              have hlk3 : decide (ml < lc) = false := by simp; omega
              go_wp2_with fail
              exact ⟨⟨cn + 1, by omega, by go_num, s9⟩, by simp [intOf]; omega⟩
        · have hrm := HT1.out
          clear HT0 HT1
          refine HEX.out.mono ?_
          rintro e w8 ⟨rfl, b8⟩
          have s8 := below5 HTB.out b8
          have t8 := below5 HT7.out s8
          have ya : w8.cell? ⟨w5.heap.size, 0, none⟩ = some _ := (HZ.out.below t8).cell 0
          have yb : w8.cell? ⟨w5.heap.size, 1, none⟩ = some _ := (HZ.out.below t8).cell 1
          have hrm8 := hrm.below b8
          obtain ⟨om, cm, hvm, _, _⟩ := hrm8.form
          rw [hml] at hvm
          have HEM := Lib.hid (zExists_any (w0 := w8) (.slice oo l0.length co) (.slice o5 l5.length c5) (.slice (on.map (·.add i)) ml (cn - i)) l5 l0 m (below5 HB45.out t8) (HRY.out.kept t8) na (HOY.out.below t8) NBO.out hrm8 NBM.out)
          rw [HK.out] at HEM
          have HRM8 := Lib.hid hrm8
          have HT8 := Lib.hid s8
          clear HEX xa xb hrm hrm8 b8 t8 s8
          obtain ⟨be, hbe⟩ : ∃ be, Zn.exi l0 K l2 = be := ⟨_, rfl⟩
          rw [hbe]
          cases be with
          | true =>
            rw [HEXD.out hbe] at HEM
            clear hbe HEXD
            go_wp2_with fail
            refine HEM.out.mono ?_
            rintro e w9 ⟨rfl, b9⟩
            have s9 := below5 HT8.out b9
            have t9 := below5 HT7.out s9
            have za : w9.cell? ⟨w5.heap.size, 0, none⟩ = some _ := (HZ.out.below t9).cell 0
            have zb : w9.cell? ⟨w5.heap.size, 1, none⟩ = some _ := (HZ.out.below t9).cell 1
            have HRM9 := Lib.hid (HRM8.out.below b9)
            clear HEM ya yb b9
            by_cases hlk : ml < lc
            · have hwa : Zn.wher l0 K m = 1 := by rcases HWA.out with h | h; exact absurd hlk h; exact h
              have hlk1 : (ml : Int) < (lc : Int) := by omega
              have hlk2 : decide ((ml : Int) < (lc : Int)) = true := by simp; omega
              have hlk3 : decide (ml < lc) = true := by simp; omega
              have HWM := Lib.hid (zWhere_any (w0 := w9) (.slice oo l0.length co) (.slice o5 l5.length c5) (.slice (on.map (·.add i)) ml (cn - i)) l5 l0 m (below5 HB45.out t9) (HRY.out.kept t9) na (HOY.out.below t9) NBO.out HRM9.out NBM.out)
              rw [HK.out, hwa] at HWM
              have T9 := Lib.hid s9
              clear hwa HWA t9 s9
              go_wp2_with fail
              refine HWM.out.mono ?_
              rintro e w10 ⟨rfl, b10⟩
              have t10 := below5 T9.out b10
              clear b10 HWM
              go_wp2_with fail
              exact ⟨⟨i + 1, by omega, by go_num, t10⟩, by simp [intOf]; omega⟩
            · have hlk1 : ¬ (ml : Int) < (lc : Int) := by omega
              have hlk2 : decide ((ml : Int) < (lc : Int)) = false := by simp; omega
              have hlk3 : decide (ml < lc) = false := by simp; omega
              go_wp2_with fail
              exact ⟨⟨i + 1, by omega, by go_num, s9⟩, by simp [intOf]; omega⟩
          | false =>
            clear hbe HEXD HEM
            have s9 := HT8.out
            have t9 := below5 HT7.out s9
            have za := ya
            have zb := yb
            have HRM9 := HRM8
            clear ya yb
            by_cases hlk : ml < lc
            · have hwa : Zn.wher l0 K m = 1 := by rcases HWA.out with h | h; exact absurd hlk h; exact h
              have hlk1 : (ml : Int) < (lc : Int) := by omega
              have hlk2 : decide ((ml : Int) < (lc : Int)) = true := by simp; omega
              have hlk3 : decide (ml < lc) = true := by simp; omega
              have HWM := Lib.hid (zWhere_any (w0 := w8) (.slice oo l0.length co) (.slice o5 l5.length c5) (.slice (on.map (·.add i)) ml (cn - i)) l5 l0 m (below5 HB45.out t9) (HRY.out.kept t9) na (HOY.out.below t9) NBO.out HRM9.out NBM.out)
              rw [HK.out, hwa] at HWM
              have T9 := Lib.hid s9
              clear hwa HWA t9 s9
              go_wp2_with fail
              refine HWM.out.mono ?_
              rintro e w10 ⟨rfl, b10⟩
              have t10 := below5 T9.out b10
              clear b10 HWM
              go_wp2_with fail
              exact ⟨⟨i + 1, by omega, by go_num, t10⟩, by simp [intOf]; omega⟩
            · have hlk1 : ¬ (ml : Int) < (lc : Int) := by omega
              have hlk2 : decide ((ml : Int) < (lc : Int)) = false := by simp; omega
              have hlk3 : decide (ml < lc) = false := by simp; omega
              go_wp2_with fail
              exact ⟨⟨i + 1, by omega, by go_num, s9⟩, by simp [intOf]; omega⟩
      · have hlz : ¬ (i : Int) ≤ (d : Int) := by omega
        have TB := Lib.hid sb
        clear tb sb
        have hnc : NB (l2.drop k) := NBN.out.drop k
        have hlen : (l2.drop k).length = lc := by rw [HLK.out]; simp
        obtain ⟨c, hcd⟩ : ∃ c, l2.drop k = c := ⟨_, rfl⟩
        have hcc : Zn.cutAt l0 K c = some 0 := by rw [← hcd]; exact Zn.cutAt_cut HCT.out
        have hcs := Zn.cut_some hcc
        have hwc : Zn.wher l0 K c = 2 := by rw [← hcd]; exact Zn.wher_cut HCT.out
        have hsc : Nm.under l2 c = true := by rw [← hcd]; exact Nm.under_tail l2 k
        have hq := HWV.out
        rw [hcd] at hnc hlen hq H6R7
        have NC := Lib.hid hnc
        have sb := TB.out
        have tb := below5 HT7.out sb
        have HRC := Lib.hid (show Rd (.slice o6 lc c6) c wr from H6R7.out.below sb)
        have HD1 := Lib.hid (zCutOf_any (w0 := wr) (.slice oo l0.length co) (.slice o5 l5.length c5) (.slice o6 lc c6) l5 l0 c (below5 HB45.out tb) (HRY.out.kept tb) na (HOY.out.below tb) NBO.out HRC.out NC.out)
        rw [HK.out] at HD1
        obtain ⟨ld, hld⟩ : ∃ ld, (Zn.cut l0 K c).length = ld := ⟨_, rfl⟩
        clear tb sb hnc
        go_wp2_with fail
        refine HD1.out.mono ?_
        rintro e wa ⟨vd, rfl, hdr, ta⟩
        have TA := Lib.hid (below5 TB.out ta)
        have hcz : Zn.cut l0 K c = c := by rw [hcs.2]; rfl
        rw [hcz] at hdr
        obtain ⟨od, cd, hvd, _, _⟩ := hdr.form
        rw [hlen] at hvd
        subst hvd
        have tz := below5 HT7.out TA.out
        have yza : wa.cell? ⟨w5.heap.size, 0, none⟩ = some _ := (HZ.out.below tz).cell 0
        have yzb : wa.cell? ⟨w5.heap.size, 1, none⟩ = some _ := (HZ.out.below tz).cell 1
        have HSM := Lib.hid (nSame_any _ _ c c wa (HRC.out.below ta) hdr NC.out NC.out)
        have e1 : Nm.same c c = true := Nm.same_refl c
        rw [e1] at HSM
        have HDR := Lib.hid hdr
        have HRA := Lib.hid (HRC.out.below ta)
        have HHQ := Lib.hid hq
        have hb1 : Zn.isCut l0 K c = true := hcs.1
        have HHSC := Lib.hid hsc
        have HHWC := Lib.hid hwc
        clear hcs hcz hdr hld hlen hq e1 xa xb hcd hsc hwc HD1 ta tz
        rw [hb1]
        go_wp2_with fail
        refine HSM.out.mono ?_
        rintro e wb ⟨rfl, bb⟩
        have TBB := Lib.hid (below5 TA.out bb)
        have HRB := Lib.hid (HRA.out.below bb)
        have HUN := Lib.hid (nUnder_any _ _ l2 c wb (HNY.out.below (below5 HT7.out TBB.out)) HRB.out NBN.out NC.out)
        rw [HHSC.out] at HUN
        clear bb HSM HDR HRA yza yzb
        go_wp2_with fail
        refine HUN.out.mono ?_
        rintro e wc ⟨rfl, bc⟩
        have TC := Lib.hid (below5 TBB.out bc)
        have HRCC := Lib.hid (HRB.out.below bc)
        have tz := below5 HT7.out TC.out
        have yza : wc.cell? ⟨w5.heap.size, 0, none⟩ = some _ := (HZ.out.below tz).cell 0
        have yzb : wc.cell? ⟨w5.heap.size, 1, none⟩ = some _ := (HZ.out.below tz).cell 1
        have HWC := Lib.hid (zWhere_any (w0 := wc) (.slice oo l0.length co) (.slice o5 l5.length c5) (.slice o6 lc c6) l5 l0 c (below5 HB45.out tz) (HRY.out.kept tz) na (HOY.out.below tz) NBO.out HRCC.out NC.out)
        rw [HK.out, HHWC.out] at HWC
        clear bc HUN HRB tz
        go_wp2_with fail
        refine HWC.out.mono ?_
        rintro e wd ⟨rfl, bd⟩
        have TD := Lib.hid (below5 TC.out bd)
        have HSN := Lib.hid (nSame_any _ _ l2 c wd (HNY.out.below (below5 HT7.out TD.out)) (HRCC.out.below bd) NBN.out NC.out)
        rw [← HHQ.out] at HSN
        clear bd HWC HRCC yza yzb
        go_wp2_with fail
        refine HSN.out.mono ?_
        rintro e we ⟨rfl, be⟩
        have TE := Lib.hid (below5 TD.out be)
        clear be HSN
        go_wp2_with fail
        go_ret
        exact ⟨by simp, below5 HBY.out (below5 HT7.out TE.out)⟩
end Go.Proofs.Ytneghhbclefmoaa
