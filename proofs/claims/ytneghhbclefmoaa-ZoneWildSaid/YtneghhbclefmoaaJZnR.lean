/- The walk of ZoneWild. -/
import Derived.Test.YtneghhbclefmoaaJZnQ
namespace Go.Proofs.Ytneghhbclefmoaa
open Go.RowKit Go.Shelf Go.Sort
set_option maxRecDepth 100000

set_option maxHeartbeats 3000000 in
theorem walkZoneWild (v0 : Value) (l0 : List (List UInt8)) (v1 : Value) (l1 : List RP) (v2 : Value) (l2 : List (List UInt8)) (x : List UInt8) (w : World) (h0 : Rd v0 l0 w) (h1 : RecsRd v1 l1 w ∧ ∀ x ∈ l1, RN x.2) (h2 : Rd v2 l2 w) (_hx : x.length ≤ maxLen) (hsz : l2.length * 16 ≤ reachBytes) :
    Calls Try.prog 5 #[v0, v1, v2, S x] w (Tr w) := by
  obtain ⟨h1, hrn⟩ := h1
  obtain ⟨oo, co, rfl, ob1, ob2⟩ := h0.form
  obtain ⟨on, cn, rfl, nb1, nb2⟩ := h2.form
  have HO := Lib.hid h0
  have HV := Lib.hid h1
  have HN := Lib.hid h2
  have HRN := Lib.hid hrn
  have HSZ := Lib.hid hsz
  clear h0 h1 h2 hrn hsz
  go_enter Try.func5, Try.ntmps5
  go_wp2_with fail
  refine (known12_any _).mono ?_
  rintro e w1 ⟨rfl, b1⟩
  have HM := Lib.hid (nChild_big x _ l2 w1 (HN.out.below b1) HSZ.out)
  have HB1 := Lib.hid b1
  clear b1
  go_wp2_with fail
  refine HM.out.mono ?_
  rintro e wm ⟨vm, rfl, rm, bm⟩
  obtain ⟨om, cm, rfl, _, _⟩ := rm.form
  obtain ⟨lm, hlm⟩ : ∃ lm, (x :: l2).length = lm := ⟨_, rfl⟩
  rw [hlm] at rm ⊢
  have HLM := Lib.hid hlm
  have HRM := Lib.hid rm
  have HBM := Lib.hid (below5 HB1.out bm)
  have HG := Lib.hid (good12_any _ _ l0 l1 wm (HO.out.below HBM.out) (HV.out.kept HBM.out))
  clear bm rm hlm HM HB1
  go_wp2_with fail
  refine HG.out.mono ?_
  rintro e w2 ⟨b, rfl, hq, b2⟩
  have HB2 := Lib.hid (below5 HBM.out b2)
  have HRM2 := Lib.hid (HRM.out.below b2)
  have HQ := Lib.hid hq
  clear HG b2 hq HRM
  cases b with
  | false =>
    go_wp2_with fail
    go_ret
    exact ⟨rfl, HB2.out⟩
  | true =>
  obtain ⟨hgo, hrf⟩ := HQ.out rfl
  obtain ⟨nbo, lo140, _, _⟩ := Nm.good2_parts hgo
  have HRF := Lib.hid hrf
  have NBO := Lib.hid nbo
  have HG2 := Lib.hid (good2_any _ l2 w2 (HN.out.below HB2.out))
  obtain ⟨bz, hbz⟩ : ∃ bz, Nm.good2 l2 = bz := ⟨_, rfl⟩
  have HBZ := Lib.hid hbz
  rw [hbz] at HG2
  clear hgo hrf nbo hbz HQ
  go_wp2_with fail
  refine HG2.out.mono ?_
  rintro e w3 ⟨rfl, b3⟩
  have HB3 := Lib.hid (below5 HB2.out b3)
  have HRM3 := Lib.hid (HRM2.out.below b3)
  clear HG2 b3 HRM2
  cases bz with
  | false =>
    go_wp2_with fail
    go_ret
    exact ⟨rfl, HB3.out⟩
  | true =>
  obtain ⟨nbn, ln140, _, _⟩ := Nm.good2_parts HBZ.out
  have NBN := Lib.hid nbn
  have HG3 := Lib.hid (good2_any _ (x :: l2) w3 HRM3.out)
  obtain ⟨by', hby⟩ : ∃ by', Nm.good2 (x :: l2) = by' := ⟨_, rfl⟩
  have HBY3 := Lib.hid hby
  rw [hby] at HG3
  clear nbn hby
  go_wp2_with fail
  refine HG3.out.mono ?_
  rintro e w4 ⟨rfl, b4⟩
  have HB4 := Lib.hid (below5 HB3.out b4)
  have HRM4 := Lib.hid (HRM3.out.below b4)
  clear HG3 b4 HRM3
  cases by' with
  | false =>
    go_wp2_with fail
    go_ret
    exact ⟨rfl, HB4.out⟩
  | true =>
  obtain ⟨nbm, lm140, _, _⟩ := Nm.good2_parts HBY3.out
  have NBM := Lib.hid nbm
  have HU := Lib.hid (nUnder_any _ _ l2 l0 w4 (HN.out.below HB4.out) (HO.out.below HB4.out) NBN.out NBO.out)
  obtain ⟨bu, hbu⟩ : ∃ bu, Nm.under l2 l0 = bu := ⟨_, rfl⟩
  have HBU := Lib.hid hbu
  rw [hbu] at HU
  clear nbm hbu
  go_wp2_with fail
  refine HU.out.mono ?_
  rintro e w5 ⟨rfl, b5⟩
  have HB5 := Lib.hid (below5 HB4.out b5)
  have HRM5 := Lib.hid (HRM4.out.below b5)
  clear HU b5 HRM4
  cases bu with
  | false =>
    go_wp2_with fail
    go_ret
    exact ⟨rfl, HB5.out⟩
  | true =>
  have hrk := HV.out.kept HB5.out
  obtain ⟨L, hL, hL60, hLl⟩ := els_of hrk HRF.out HRN.out
  have hrec : RecsRd v1 (L.map (·.1)) w5 := by rw [hL]; exact hrk
  have HNEW := Lib.hid (zNew_any oo l0.length co v1 L hrec (by omega))
  clear hrk hrec hL
  go_wp2_with fail
  refine HNEW.out.mono ?_
  rintro e w6 ⟨v6, l6, rfl, hr6, hp6, hn6, b6⟩
  obtain ⟨o6, c6, rfl⟩ : ∃ o cap, v6 = .slice o l6.length cap := by obtain ⟨_, o, cap, h, _⟩ := hr6; exact ⟨o, cap, by rw [h, List.length_map]⟩
  have na : l6.length ≤ 1000 := by omega
  obtain ⟨Wx, hWx⟩ : ∃ W, w6.alloc (.cells #[.slice none 0 0, .slice none 0 0] 30) = W := ⟨_, rfl⟩
  have kx : Blk w6.heap.size #[.slice none 0 0, .slice none 0 0] 30 Wx := by rw [← hWx]; exact Blk.new w6 _ _
  have g0 : Wx.cell? ⟨w6.heap.size, 0, none⟩ = some _ := kx.cell 0
  have g1 : Wx.cell? ⟨w6.heap.size, 1, none⟩ = some _ := kx.cell 1
  have f0 := kx.frozen 0
  have f1 := kx.frozen 1
  obtain ⟨Wy, hWy⟩ : ∃ W, (Wx.setCell ⟨w6.heap.size, 0, none⟩ (.slice oo l0.length co)).setCell ⟨w6.heap.size, 1, none⟩ (.slice o6 l6.length c6) = W := ⟨_, rfl⟩
  have ky : Blk w6.heap.size #[.slice oo l0.length co, .slice o6 l6.length c6] 30 Wy := by rw [← hWy]; exact (kx.setAt 0 _).setAt 1 _
  have bwy : Below w6.heap.size w6 Wy := by rw [← hWy, ← hWx]; exact (((Below.refl _ _).alloc (Nat.le_refl _) _).setCell (p := ⟨w6.heap.size, 0, none⟩) (Nat.le_refl _) _).setCell (p := ⟨w6.heap.size, 1, none⟩) (Nat.le_refl _) _
  have HZ := Lib.hid ky
  have HB56 := Lib.hid (below5 b6 bwy)
  have HBY := Lib.hid (below5 HB5.out (below5 b6 bwy))
  have HRY := Lib.hid (hr6.kept bwy)
  have HOY := Lib.hid (HO.out.below HBY.out)
  have HNY := Lib.hid (HN.out.below HBY.out)
  have HMY := Lib.hid (HRM5.out.below HB56.out)
  have x0a : Wy.cell? ⟨w6.heap.size, 0, none⟩ = some _ := ky.cell 0
  have x0b : Wy.cell? ⟨w6.heap.size, 1, none⟩ = some _ := ky.cell 1
  obtain ⟨K, hK⟩ : ∃ K, plE l6 = K := ⟨_, rfl⟩
  have HK := Lib.hid hK
  have HLMO := Lib.hid lm140
  have HLNO := Lib.hid ln140
  clear hr6 kx ky bwy b6 HNEW hK hp6 hn6 HRM5 lm140
  -- Exists(z, n)
  have HE1 := Lib.hid (zExists_any (w0 := Wy) (.slice oo l0.length co) (.slice o6 l6.length c6) (.slice on l2.length cn) l6 l0 l2 (below5 HB56.out (Below.refl _ _)) HRY.out na HOY.out NBO.out HNY.out NBN.out)
  rw [HK.out] at HE1
  obtain ⟨be, hbe⟩ : ∃ be, Zn.exi l0 K l2 = be := ⟨_, rfl⟩
  have HBE := Lib.hid hbe
  rw [hbe] at HE1
  clear hbe HB2 HB3 HBM
  go_wp2_with fail
  refine HE1.out.mono ?_
  rintro e w7 ⟨rfl, t7⟩
  clear HE1 hWx hWy g0 g1 f0 f1 x0a x0b
  cases be with
  | true =>
    go_wp2_with fail
    go_ret
    exact ⟨rfl, below5 HBY.out t7⟩
  | false =>
  have x7a : w7.cell? ⟨w6.heap.size, 0, none⟩ = some _ := (HZ.out.below t7).cell 0
  have x7b : w7.cell? ⟨w6.heap.size, 1, none⟩ = some _ := (HZ.out.below t7).cell 1
  -- Source(z, n)
  have HS1 := Lib.hid (zSource_any (w0 := w7) (.slice oo l0.length co) (.slice o6 l6.length c6) (.slice on l2.length cn) l6 l0 l2 (below5 HB56.out t7) (HRY.out.kept t7) na (HOY.out.below t7) NBO.out (HNY.out.below t7) NBN.out (by have := HLNO.out; omega))
  rw [HK.out] at HS1
  have HT7 := Lib.hid t7
  clear t7
  go_wp2_with fail
  refine HS1.out.mono ?_
  rintro e w8 ⟨va, rfl, ra, b8⟩
  have HT8 := Lib.hid (below5 HT7.out b8)
  have x8a : w8.cell? ⟨w6.heap.size, 0, none⟩ = some _ := (HZ.out.below HT8.out).cell 0
  have x8b : w8.cell? ⟨w6.heap.size, 1, none⟩ = some _ := (HZ.out.below HT8.out).cell 1
  clear HS1 x7a x7b b8
  have HRA := Lib.hid ra
  -- Source(z, m)
  have HS2 := Lib.hid (zSource_any (w0 := w8) (.slice oo l0.length co) (.slice o6 l6.length c6) (.slice om lm cm) l6 l0 (x :: l2) (below5 HB56.out HT8.out) (HRY.out.kept HT8.out) na (HOY.out.below HT8.out) NBO.out (HMY.out.below HT8.out) NBM.out (by have := HLMO.out; omega))
  rw [HK.out] at HS2
  unfold SrcR at HS2
  rw [Zn.isSrc_up x HBU.out HBE.out, Zn.src_up x HBU.out HBE.out] at HS2
  obtain ⟨bs, hbs⟩ : ∃ bs, Zn.isSrc l0 K l2 = bs := ⟨_, rfl⟩
  have HBS := Lib.hid hbs
  rw [hbs] at HS2 ⊢
  clear ra hbs
  go_wp2_with fail
  refine HS2.out.mono ?_
  rintro e w9 ⟨vb, rfl, rb, b9⟩
  have HT9 := Lib.hid (below5 HT8.out b9)
  have HRA9 := Lib.hid (HRA.out.below b9)
  have HRB := Lib.hid rb
  have x9a : w9.cell? ⟨w6.heap.size, 0, none⟩ = some _ := (HZ.out.below HT9.out).cell 0
  have x9b : w9.cell? ⟨w6.heap.size, 1, none⟩ = some _ := (HZ.out.below HT9.out).cell 1
  clear HS2 x8a x8b b9 rb HRA
  -- Encloser(z, n)
  have HN1 := Lib.hid (zEncloser_any (w0 := w9) (.slice oo l0.length co) (.slice o6 l6.length c6) (.slice on l2.length cn) l6 l0 l2 (below5 HB56.out HT9.out) (HRY.out.kept HT9.out) na (HOY.out.below HT9.out) NBO.out (HNY.out.below HT9.out) NBN.out)
  rw [HK.out] at HN1
  go_wp2_with fail
  refine HN1.out.mono ?_
  rintro e wa ⟨ve, rfl, re, ba⟩
  have HTA := Lib.hid (below5 HT9.out ba)
  have HRAA := Lib.hid (HRA9.out.below ba)
  have HRBA := Lib.hid (HRB.out.below ba)
  have HRE := Lib.hid re
  have xaa : wa.cell? ⟨w6.heap.size, 0, none⟩ = some _ := (HZ.out.below HTA.out).cell 0
  have xab : wa.cell? ⟨w6.heap.size, 1, none⟩ = some _ := (HZ.out.below HTA.out).cell 1
  clear HN1 x9a x9b ba re HRB HRA9
  -- Exists(z, m)
  have HE2 := Lib.hid (zExists_any (w0 := wa) (.slice oo l0.length co) (.slice o6 l6.length c6) (.slice om lm cm) l6 l0 (x :: l2) (below5 HB56.out HTA.out) (HRY.out.kept HTA.out) na (HOY.out.below HTA.out) NBO.out (HMY.out.below HTA.out) NBM.out)
  rw [HK.out, Zn.exi_up x HBU.out HBE.out] at HE2
  go_wp2_with fail
  refine HE2.out.mono ?_
  rintro e wb ⟨rfl, bb⟩
  have HTB := Lib.hid (below5 HTA.out bb)
  have HRAB := Lib.hid (HRAA.out.below bb)
  have HRBB := Lib.hid (HRBA.out.below bb)
  have HREB := Lib.hid (HRE.out.below bb)
  have xba : wb.cell? ⟨w6.heap.size, 0, none⟩ = some _ := (HZ.out.below HTB.out).cell 0
  have xbb : wb.cell? ⟨w6.heap.size, 1, none⟩ = some _ := (HZ.out.below HTB.out).cell 1
  have NE := Lib.hid (Zn.encl_nb (o := l0) (L := K) NBN.out)
  have NS := Lib.hid (show NB (Zn.src l0 K l2) by
    unfold Zn.src
    split
    · exact Zn.star_nb NBN.out (by have := HLNO.out; omega)
    · exact NB.nil')
  have HSM := Lib.hid (nSame_any va vb _ _ wb HRAB.out HRBB.out NS.out NS.out)
  rw [Nm.same_refl] at HSM
  clear HE2 xaa xab bb HRAA HRBA HRE
  go_wp2_with fail
  refine HSM.out.mono ?_
  rintro e wc ⟨rfl, bc⟩
  have HTC := Lib.hid (below5 HTB.out bc)
  have HRAC := Lib.hid (HRAB.out.below bc)
  have HREC := Lib.hid (HREB.out.below bc)
  have xca : wc.cell? ⟨w6.heap.size, 0, none⟩ = some _ := (HZ.out.below HTC.out).cell 0
  have xcb : wc.cell? ⟨w6.heap.size, 1, none⟩ = some _ := (HZ.out.below HTC.out).cell 1
  have HE3 := Lib.hid (zExists_any (w0 := wc) (.slice oo l0.length co) (.slice o6 l6.length c6) ve l6 l0 (Zn.encl l0 K l2) (below5 HB56.out HTC.out) (HRY.out.kept HTC.out) na (HOY.out.below HTC.out) NBO.out HREC.out NE.out)
  rw [HK.out, Zn.encl_exi HBU.out] at HE3
  clear HSM xba xbb bc HRAB HRBB HREB
  go_wp2_with fail
  refine HE3.out.mono ?_
  rintro e wd ⟨rfl, bd⟩
  have HTD := Lib.hid (below5 HTC.out bd)
  have HRAD := Lib.hid (HRAC.out.below bd)
  have HRED := Lib.hid (HREC.out.below bd)
  have xda : wd.cell? ⟨w6.heap.size, 0, none⟩ = some _ := (HZ.out.below HTD.out).cell 0
  have xdb : wd.cell? ⟨w6.heap.size, 1, none⟩ = some _ := (HZ.out.below HTD.out).cell 1
  have HN2 := Lib.hid (zEncloser_any (w0 := wd) (.slice oo l0.length co) (.slice o6 l6.length c6) (.slice om lm cm) l6 l0 (x :: l2) (below5 HB56.out HTD.out) (HRY.out.kept HTD.out) na (HOY.out.below HTD.out) NBO.out (HMY.out.below HTD.out) NBM.out)
  rw [HK.out, Zn.encl_up x HBU.out HBE.out] at HN2
  clear HE3 xca xcb bd HRAC HREC
  go_wp2_with fail
  refine HN2.out.mono ?_
  rintro e we ⟨ve2, rfl, re2, be'⟩
  have HTE := Lib.hid (below5 HTD.out be')
  have HRAE := Lib.hid (HRAD.out.below be')
  have HREE := Lib.hid (HRED.out.below be')
  have HSM2 := Lib.hid (nSame_any ve ve2 _ _ we HREE.out re2 NE.out NE.out)
  rw [Nm.same_refl] at HSM2
  clear HN2 xda xdb be' HRAD HRED re2
  go_wp2_with fail
  refine HSM2.out.mono ?_
  rintro e wf ⟨rfl, bf⟩
  have HTF := Lib.hid (below5 HTE.out bf)
  have HRAF := Lib.hid (HRAE.out.below bf)
  have HREF := Lib.hid (HREE.out.below bf)
  clear HSM2 bf HRAE HREE
  cases bs with
  | false =>
    go_wp2_with fail
    go_ret
    exact ⟨by simp, below5 HBY.out HTF.out⟩
  | true =>
    have HST := Lib.hid (Zn.src_is HBS.out)
    have HRS : Hid (Rd va (Zn.star l0 K l2) wf) := by show Rd va _ wf; rw [← HST.out]; exact HRAF.out
    have NST : Hid (NB (Zn.star l0 K l2)) := Zn.star_nb NBN.out (by have := HLNO.out; omega)
    have HW1 := Lib.hid (nWild_any va _ wf HRS.out NST.out)
    rw [show Nm.wild (Zn.star l0 K l2) = true from rfl] at HW1
    go_wp2_with fail
    refine HW1.out.mono ?_
    rintro e wg ⟨rfl, bg⟩
    have HTG := Lib.hid (below5 HTF.out bg)
    have HRSG := Lib.hid (HRS.out.below bg)
    have HREG := Lib.hid (HREF.out.below bg)
    have HP := Lib.hid (nParent_any va _ wg HRSG.out NST.out)
    rw [show Nm.parent (Zn.star l0 K l2) = Zn.encl l0 K l2 from rfl] at HP
    clear HW1 bg HRS HREF
    go_wp2_with fail
    refine HP.out.mono ?_
    rintro e wh ⟨vp, rfl, rp, bh⟩
    have HTH := Lib.hid (below5 HTG.out bh)
    have HSM3 := Lib.hid (nSame_any vp ve _ _ wh rp (HREG.out.below bh) NE.out NE.out)
    rw [Nm.same_refl] at HSM3
    clear HP bh rp
    go_wp2_with fail
    refine HSM3.out.mono ?_
    rintro e wi ⟨rfl, bi⟩
    have HTI := Lib.hid (below5 HTH.out bi)
    clear HSM3 bi
    go_wp2_with fail
    go_ret
    exact ⟨by simp, below5 HBY.out HTI.out⟩
end Go.Proofs.Ytneghhbclefmoaa
