/- The reference's lexer reads a line: one of the ways it may begin. -/
import Derived.Test.YticljagcigiejaaTkMa
namespace Go.Proofs.Yticljagcigiejaa
open Go.RowKit Go.Shelf
set_option maxRecDepth 100000

set_option maxHeartbeats 4000000 in
theorem rline_3 (Z : Nat → Prop) (b : Nat) (x : Tk.Lx) (st : Tk.St) (s : List UInt8) (n : Nat) (w : World) (h : Tk.LxRd Z b x w) (hsim : Tk.LSim x st) (hs : s.length ≤ 900000) (h8 : st.opens.length ≤ 8) (hwl : st.words.length + s.length ≤ 900000) (hol : st.out.length ≤ 900000) (hpos : 0 < s.length) (h0 : s[0] ≠ 32) (h0' : s[0] ≠ 9) (hbl : Tk.isBlank s = false) :
    Calls Try.prog 31 #[.pointer (some ⟨b, 0, none⟩), S s, .int .i64 n] w (LnP Z b st s n w) := by
  have HI := Lib.hid (Tk.LnI.start (n := n) (s := s) h hsim h8)
  have HOL := Lib.hid hol
  have HWL := Lib.hid hwl
  clear h hsim h8 hol hwl
  have HBL := Lib.hid hbl
  clear hbl
  have hposi : (0 : Int) < s.length := by omega
  obtain ⟨z1, z2⟩ := tk_bne (n := 32) (b := 32) rfl h0
  obtain ⟨z3, z4⟩ := tk_bne (n := 9) (b := 9) rfl h0'
  clear h0 h0'
  refine (callsIn_wide (n := 0)).1 ?_
  refine callsIn_of_wp Try.func31 rfl trivial ?_ rfl
  simp only [Try.ntmps31, List.size_toArray, List.length_cons, List.length_nil, Nat.reduceAdd, Nat.reduceSub, Array.replicate_succ, Array.replicate_zero, List.push_toArray, List.append_toArray, List.nil_append, List.cons_append]
  gi_wp2_with fail
  gi_loopw [8] (fun i wr => ∃ (k : Nat) (x' : Tk.Lx) (st' : Tk.St), i = .int .i64 k ∧ Tk.LnI Z b s st n w k x' st' wr) (fun i _ => s.length - (intOf i).toNat)
  case atStart => exact ⟨0, x, st.begin s, rfl, HI.out⟩
  case round =>
    clear HI
    obtain ⟨k, x', st', rfl, hI⟩ := hrel
    have hkl := hI.le
    have HLI := Lib.hid hI
    have HR := Lib.hid hI.rd
    have HK := Lib.hid hI.keep
    have HWW := Lib.hid hI.words
    clear hI
    have hF := HLI.out.lin.flush n
    have hFl := Tk.Lx.flush_len x' n
    obtain ⟨x1, hx1⟩ : ∃ x1, x'.flush false n = x1 := ⟨_, rfl⟩
    obtain ⟨st1, hst1⟩ : ∃ st1, Tk.flushed x' st' n = st1 := ⟨_, rfl⟩
    rw [hx1, hst1] at hF
    rw [hx1] at hFl
    have HX1 := Lib.hid hx1
    have HST1 := Lib.hid hst1
    have h1op : st1.opens.length ≤ 8 := by
      have : st1.opens = st'.opens := by rw [← hst1]; unfold Tk.flushed; split <;> rfl
      rw [this]; exact HLI.out.deep
    obtain ⟨hL1, hi1, hon1⟩ := hF
    have hw1 : x1.words.length ≤ st.words.length + k := by rw [hFl.1]; exact HWW.out
    have ho1 : x1.out = st.out := hFl.2.1.trans HLI.out.out
    have HL1 := Lib.hid hL1
    have HI1 := Lib.hid hi1
    have HW1 := Lib.hid hw1
    have HO1 := Lib.hid ho1
    have H1OP := Lib.hid h1op
    have hxw : x'.words.length ≤ 1000000 := by have := HWW.out; have := HWL.out; split at * <;> omega
    have HXW := Lib.hid hxw
    clear hx1 hst1 hL1 hi1 hon1 hFl hw1 ho1 h1op hxw
    by_cases hlt : k < s.length
    · have hlt' : (k : Int) < s.length := by omega
      have HD := Lib.hid (List.drop_eq_getElem_cons hlt)
      have hpr := HLI.out.spec
      rw [HD.out] at hpr
      have HPR := Lib.hid hpr
      clear hpr
      by_cases h59 : s[k] = 59
      · obtain ⟨e1, e2⟩ := tk_beq (n := 59) rfl h59
        have HSP := Lib.hid (show Tk.read s (st.begin s) n = .ok st1 by
          rw [← HPR.out, Tk.pend_stop _ _ (.inr ⟨_, _, rfl, by rw [h59]; decide⟩), HST1.out, h59, Tk.read_rem])
        clear h59
        gi_wp2_with fail
        refine (callsIn_wide.2 (rflush_any Z b x' false n _ HR.out HXW.out)).mono ?_
        rintro e w2 ⟨rfl, hr2, hk2⟩
        rw [HX1.out] at hr2
        have HK2 := Lib.hid (HK.out.trans hk2)
        gi_wp2_with fail
        refine (callsIn_wide.2 (rend_any Z b x1 _ hr2 (by rw [HO1.out]; have := HOL.out; omega) (by have := HW1.out; have := HWL.out; omega))).mono ?_
        rintro e w3 ⟨rfl, hr3, hk3⟩
        gi_wp2_with fail
        go_ret
        exact LnP.ok st1 x1.fin HSP.out (HK2.out.trans hk3) hr3 (HL1.out.fin HI1.out)
      obtain ⟨e1, e2⟩ := tk_bne (n := 59) (b := 59) rfl h59
      by_cases h32 : s[k] = 32 ∨ s[k] = 9
      · have HSP := Lib.hid (show Tk.pend x1 (s.drop (k + 1)) st1 n = Tk.read s (st.begin s) n by
          rw [← HPR.out, Tk.pend_stop _ _ (.inr ⟨_, _, rfl, by rcases h32 with e | e <;> rw [e] <;> decide⟩), HST1.out, Tk.read_blank _ _ _ h32, Tk.pend_no _ _ _ HI1.out])
        clear h59
        rcases h32 with h | h
        · obtain ⟨f1, f2⟩ := tk_beq (n := 32) rfl h
          clear h
          gi_wp2_with fail
          refine (callsIn_wide.2 (rflush_any Z b x' false n _ HR.out HXW.out)).mono ?_
          rintro e w2 ⟨rfl, hr2, hk2⟩
          rw [HX1.out] at hr2
          have HR2 := Lib.hid hr2
          have HK2 := Lib.hid (HK.out.trans hk2)
          clear hr2 hk2
          gi_wp2_with fail
          exact ⟨⟨k + 1, x1, st1, by go_num, ⟨by omega, HL1.out, HSP.out, HR2.out, HK2.out, H1OP.out, by rw [HI1.out]; have := HW1.out; simp; omega, by rw [HL1.out.wd HI1.out]; simp, HO1.out⟩⟩, by simp [intOf]; omega⟩
        · obtain ⟨f1, f2⟩ := tk_beq (n := 9) rfl h
          obtain ⟨f3, f4⟩ := tk_bne (n := 32) (b := 32) rfl (show s[k] ≠ 32 by rw [h]; decide)
          clear h
          gi_wp2_with fail
          refine (callsIn_wide.2 (rflush_any Z b x' false n _ HR.out HXW.out)).mono ?_
          rintro e w2 ⟨rfl, hr2, hk2⟩
          rw [HX1.out] at hr2
          have HR2 := Lib.hid hr2
          have HK2 := Lib.hid (HK.out.trans hk2)
          clear hr2 hk2
          gi_wp2_with fail
          exact ⟨⟨k + 1, x1, st1, by go_num, ⟨by omega, HL1.out, HSP.out, HR2.out, HK2.out, H1OP.out, by rw [HI1.out]; have := HW1.out; simp; omega, by rw [HL1.out.wd HI1.out]; simp, HO1.out⟩⟩, by simp [intOf]; omega⟩
      obtain ⟨f1, f2⟩ := tk_bne (n := 32) (b := 32) rfl (show s[k] ≠ 32 from fun e => h32 (.inl e))
      obtain ⟨f3, f4⟩ := tk_bne (n := 9) (b := 9) rfl (show s[k] ≠ 9 from fun e => h32 (.inr e))
      have hB := HL1.out.begin
      rw [HBL.out] at hB
      obtain ⟨x2, hx2⟩ : ∃ x2, x1.begin false = x2 := ⟨_, rfl⟩
      rw [hx2] at hB
      have HX2 := Lib.hid hx2
      obtain ⟨hL2, hon2, hi2, hwd2, hopn2, hww2, hoo2⟩ := hB
      rw [HI1.out] at hi2
      rw [HL1.out.wd HI1.out] at hwd2
      have HL2 := Lib.hid hL2
      have HON2 := Lib.hid hon2
      have HI2 := Lib.hid hi2
      have HWD2 := Lib.hid hwd2
      have HOPN2 := Lib.hid hopn2
      have HWW2 := Lib.hid hww2
      have HOO2 := Lib.hid hoo2
      clear hx2 hL2 hon2 hi2 hwd2 hopn2 hww2 hoo2
      by_cases h40 : s[k] = 40
      · obtain ⟨g1, g2⟩ := tk_beq (n := 40) rfl h40
        have HSP := Lib.hid (show (if st1.opens.length = 8 then .error 10 else Tk.read (s.drop (k + 1)) (st1.open n) n) = Tk.read s (st.begin s) n by
          rw [← HPR.out, Tk.pend_stop _ _ (.inr ⟨_, _, rfl, by rw [h40]; decide⟩), HST1.out, h40, Tk.read_open])
        clear h59 h32 h40
        have hopl : x2.opn = st1.opens.length := HL2.out.opn
        have HOPL := Lib.hid hopl
        have ho8 : x2.opn ≤ 8 := by rw [hopl]; exact H1OP.out
        clear hopl
        gi_wp2_with fail
        refine (callsIn_wide.2 (rflush_any Z b x' false n _ HR.out HXW.out)).mono ?_
        rintro e w2 ⟨rfl, hr2, hk2⟩
        rw [HX1.out] at hr2
        have HR2 := Lib.hid hr2
        have HK2 := Lib.hid (HK.out.trans hk2)
        clear hr2 hk2
        gi_wp2_with fail
        refine (callsIn_wide.2 (rbegin_any Z b x1 false _ HR2.out)).mono ?_
        rintro e w3 ⟨rfl, hr3, hk3⟩
        rw [HX2.out] at hr3
        have HR3 := Lib.hid hr3
        have HK3 := Lib.hid (HK2.out.trans hk3)
        obtain ⟨vo3, o3, cap3, hcell3, hz3, hb3, _⟩ := hr3.cells
        have c5 := hcell3 5 _ rfl
        have c6 := hcell3 6 _ rfl
        clear hr3 hk3 hcell3
        by_cases h0 : x2.opn = 0
        · have h0i : ((x2.opn : Int) == 0) = true := by rw [h0]; rfl
          have HLO := Lib.hid (HL2.out.open HON2.out n n (by rw [if_pos h0]))
          have HSP2 := Lib.hid (show Tk.read (s.drop (k + 1)) (st1.open n) n = Tk.read s (st.begin s) n by rw [← HSP.out, if_neg (by rw [← HOPL.out, h0]; decide)])
          have h0l : (x2.opn : Int) + 1 ≤ 8 := by rw [h0]; decide
          have HO8 := Lib.hid (show (st1.open n).opens.length ≤ 8 by have := HOPL.out; simp [Tk.St.open]; omega)
          clear h0
          gi_wp2_with fail
          refine ⟨⟨k + 1, { x2 with first := n, opn := x2.opn + 1 }, st1.open n, by go_num, ⟨by omega, HLO.out, ?_, ?_, (HK3.out.setCell HR3.out.bz _).setCell HR3.out.bz _, HO8.out, ?_, ?_, ?_⟩⟩, by simp [intOf]; omega⟩
          · refine (Tk.pend_no _ _ _ ?_).trans HSP2.out; exact HI2.out
          · exact (HR3.out.setFirst n).setOpn (x2.opn + 1)
          · show x2.words.length + (if x2.inn = true then 1 else 0) ≤ _; rw [HI2.out, HWW2.out]; have := HW1.out; simp; omega
          · show x2.wd.length ≤ _; rw [HWD2.out]; simp
          · show x2.out = _; rw [HOO2.out, HO1.out]
        · have h0i : ((x2.opn : Int) == 0) = false := by rw [beq_eq_false_iff_ne]; omega
          have HLO := Lib.hid (HL2.out.open HON2.out n x2.first (by rw [if_neg h0]))
          by_cases h8 : x2.opn = 8
          · have h8i : (8 : Int) < (x2.opn : Int) + 1 := by omega
            have HSP2 := Lib.hid (show Tk.read s (st.begin s) n = .error 10 by rw [← HSP.out, if_pos (by rw [← HOPL.out, h8])])
            clear h0 h8
            gi_wp2_with fail
            go_ret
            exact LnP.err 10 (by decide) HSP2.out (HK3.out.setCell HR3.out.bz _)
          · have h8i : (x2.opn : Int) + 1 ≤ 8 := by omega
            have HSP2 := Lib.hid (show Tk.read (s.drop (k + 1)) (st1.open n) n = Tk.read s (st.begin s) n by rw [← HSP.out, if_neg (by rw [← HOPL.out]; exact h8)])
            have HO8 := Lib.hid (show (st1.open n).opens.length ≤ 8 by have := HOPL.out; simp [Tk.St.open]; omega)
            clear h0 h8
            gi_wp2_with fail
            refine ⟨⟨k + 1, { x2 with opn := x2.opn + 1 }, st1.open n, by go_num, ⟨by omega, HLO.out, ?_, ?_, HK3.out.setCell HR3.out.bz _, HO8.out, ?_, ?_, ?_⟩⟩, by simp [intOf]; omega⟩
            · refine (Tk.pend_no _ _ _ ?_).trans HSP2.out; exact HI2.out
            · exact HR3.out.setOpn (x2.opn + 1)
            · show x2.words.length + (if x2.inn = true then 1 else 0) ≤ _; rw [HI2.out, HWW2.out]; have := HW1.out; simp; omega
            · show x2.wd.length ≤ _; rw [HWD2.out]; simp
            · show x2.out = _; rw [HOO2.out, HO1.out]
      obtain ⟨g1, g2⟩ := tk_bne (n := 40) (b := 40) rfl h40
      by_cases h41 : s[k] = 41
      · obtain ⟨g3, g4⟩ := tk_beq (n := 41) rfl h41
        have HSP := Lib.hid (show (if st1.opens = [] then .error 2 else Tk.read (s.drop (k + 1)) st1.close n) = Tk.read s (st.begin s) n by
          rw [← HPR.out, Tk.pend_stop _ _ (.inr ⟨_, _, rfl, by rw [h41]; decide⟩), HST1.out, h41, Tk.read_close])
        clear h59 h32 h40 h41
        gi_wp2_with fail
        refine (callsIn_wide.2 (rflush_any Z b x' false n _ HR.out HXW.out)).mono ?_
        rintro e w2 ⟨rfl, hr2, hk2⟩
        rw [HX1.out] at hr2
        have HR2 := Lib.hid hr2
        have HK2 := Lib.hid (HK.out.trans hk2)
        obtain ⟨vo3, o3, cap3, hcell3, hz3, hb3, _⟩ := hr2.cells
        have c5 := hcell3 5 _ rfl
        clear hr2 hk2 hcell3
        have hopl : x1.opn = st1.opens.length := HL1.out.opn
        have ho8 : x1.opn ≤ 8 := by rw [hopl]; exact H1OP.out
        by_cases h0 : st1.opens = []
        · have h0i : ((x1.opn : Int) == 0) = true := by rw [hopl, h0]; rfl
          have HSP2 := Lib.hid (show Tk.read s (st.begin s) n = .error 2 by rw [← HSP.out, if_pos h0])
          clear h0 hopl
          gi_wp2_with fail
          go_ret
          exact LnP.err 2 (by decide) HSP2.out HK2.out
        · have hp := List.length_pos_iff.2 h0
          have h0i : ((x1.opn : Int) == 0) = false := by rw [beq_eq_false_iff_ne]; omega
          have HLO := Lib.hid (HL1.out.close h0)
          have HSP2 := Lib.hid (show Tk.read (s.drop (k + 1)) st1.close n = Tk.read s (st.begin s) n by rw [← HSP.out, if_neg h0])
          have hpi : (1 : Int) ≤ x1.opn := by omega
          have HPI := Lib.hid hpi
          have HO8 := Lib.hid (show st1.close.opens.length ≤ 8 by simp [Tk.St.close]; omega)
          clear h0 hopl hp
          gi_wp2_with fail
          refine ⟨⟨k + 1, { x1 with opn := x1.opn - 1 }, st1.close, by go_num, ⟨by omega, HLO.out, ?_, ?_, HK2.out.setCell HR2.out.bz _, HO8.out, ?_, ?_, HO1.out⟩⟩, by simp [intOf]; omega⟩
          · refine (Tk.pend_no _ _ _ ?_).trans HSP2.out; exact HI1.out
          · have := HR2.out.setOpn (x1.opn - 1)
            rwa [show ((x1.opn - 1 : Nat) : Int) = (x1.opn : Int) - 1 by have := HPI.out; omega] at this
          · show x1.words.length + (if x1.inn = true then 1 else 0) ≤ _; rw [HI1.out]; have := HW1.out; simp; omega
          · show x1.wd.length ≤ _; rw [HL1.out.wd HI1.out]; simp
      obtain ⟨g3, g4⟩ := tk_bne (n := 41) (b := 41) rfl h41
      by_cases h34 : s[k] = 34
      · obtain ⟨g5, g6⟩ := tk_beq (n := 34) rfl h34
        have HSP := Lib.hid (show (match Tk.quo (s.drop (k + 1)) with
            | none => .error 2
            | some t => Tk.read ((s.drop (k + 1)).drop (t.length + 1)) (st1.put (t, true) n) n) = Tk.read s (st.begin s) n by
          rw [← HPR.out, Tk.pend_stop _ _ (.inr ⟨_, _, rfl, by rw [h34]; decide⟩), HST1.out, h34, Tk.read_quo]
          rcases Tk.quo (s.drop (k + 1)) with _ | _ <;> rfl)
        clear h59 h32 h40 h41 h34
        gi_wp2_with fail
        refine (callsIn_wide.2 (rflush_any Z b x' false n _ HR.out HXW.out)).mono ?_
        rintro e w2 ⟨rfl, hr2, hk2⟩
        rw [HX1.out] at hr2
        have HR2 := Lib.hid hr2
        have HK2 := Lib.hid (HK.out.trans hk2)
        clear hr2 hk2
        gi_wp2_with fail
        refine (callsIn_wide.2 (rbegin_any Z b x1 false _ HR2.out)).mono ?_
        rintro e w3 ⟨rfl, hr3, hk3⟩
        rw [HX2.out] at hr3
        have HR3 := Lib.hid hr3
        have HK3 := Lib.hid (HK2.out.trans hk3)
        clear hr3 hk3
        gi_wp2_with fail
        refine (callsIn_wide.2 (rquote_any Z b x2 s k n _ HR3.out (by omega) hlt (by rw [HWW2.out]; have := HW1.out; have := HWL.out; omega) (by rw [HWD2.out]; simp))).mono ?_
        rintro e w4 ⟨hk4, hq4⟩
        have HK4 := Lib.hid (HK3.out.trans hk4)
        clear hk4
        rcases hq : Tk.quo (s.drop (k + 1)) with _ | t
        · rw [hq] at hq4
          subst hq4
          have HSP2 := Lib.hid (show Tk.read s (st.begin s) n = .error 2 by rw [← HSP.out, hq])
          clear hq
          gi_wp2_with fail
          go_ret
          exact LnP.err 2 (by decide) HSP2.out HK4.out
        · rw [hq] at hq4
          obtain ⟨rfl, hr4⟩ := hq4
          have hql := Tk.quo_len _ _ t (Nat.le_refl _) hq
          have hql' : k + 1 + t.length + 1 ≤ s.length := by simp at hql; omega
          have HQL := Lib.hid hql'
          have HSP2 := Lib.hid (show Tk.read (s.drop (k + 1 + t.length + 1)) (st1.put (t, true) n) n = Tk.read s (st.begin s) n by
            rw [← HSP.out, hq]; simp only [List.drop_drop]; congr 2)
          have hLQ := HL2.out.quote HON2.out HI2.out t n
          have HLQ := Lib.hid hLQ.1
          have HIQ := Lib.hid hLQ.2
          have HR4 := Lib.hid hr4
          obtain ⟨kn, hkn⟩ : ∃ kn : Nat, k + 1 + t.length + 1 = kn := ⟨_, rfl⟩
          have hkni : (k : Int) + 1 + t.length + 1 = (kn : Int) := by omega
          rw [hkni]
          have HKN := Lib.hid hkn
          have hkn0 : ¬ ((kn : Int) < 0) := by omega
          have hknn : (0 : Int) ≤ kn := by omega
          clear hq hql hql' hLQ hr4 hkn hkni
          gi_wp2_with fail
          have hkn := HKN.out
          refine ⟨⟨kn, _, st1.put (t, true) n, rfl, ⟨by have := HQL.out; omega, HLQ.out, ?_, HR4.out, HK4.out, H1OP.out, ?_, ?_, ?_⟩⟩, by simp [intOf]; omega⟩
          · rw [Tk.pend_no _ _ _ HIQ.out, ← hkn]; exact HSP2.out
          · rw [HIQ.out]
            have := HW1.out
            show (({ x2 with wd := x2.wd ++ t } : Tk.Lx).flush true n).words.length + 0 ≤ _
            unfold Tk.Lx.flush
            rw [if_neg (by simp)]
            show (x2.words ++ [_]).length + 0 ≤ _
            rw [HWW2.out]; simp; omega
          · rw [HLQ.out.wd HIQ.out]; simp
          · unfold Tk.Lx.flush
            rw [if_neg (by simp)]
            show x2.out = _; rw [HOO2.out, HO1.out]
      obtain ⟨g5, g6⟩ := tk_bne (n := 34) (b := 34) rfl h34
      -- a word goes on: begin of x' itself
      have hB' := HLI.out.lin.begin
      rw [HBL.out] at hB'
      obtain ⟨x3, hx3⟩ : ∃ x3, x'.begin false = x3 := ⟨_, rfl⟩
      rw [hx3] at hB'
      have HX3 := Lib.hid hx3
      obtain ⟨hL3, hon3, hi3, hwd3, hopn3, hww3, hoo3⟩ := hB'
      have HL3 := Lib.hid hL3
      have HON3 := Lib.hid hon3
      have HI3 := Lib.hid hi3
      have HWD3 := Lib.hid hwd3
      have HWW3 := Lib.hid hww3
      have HOO3 := Lib.hid hoo3
      have hwd3l : x3.wd.length ≤ 1000000 := by rw [hwd3]; have := HLI.out.wd; omega
      clear hx3 hL3 hon3 hi3 hwd3 hopn3 hww3 hoo3
      have HPC := Lib.hid (Tk.pend_congr (s[k] :: s.drop (k + 1)) st' n HI3.out HWD3.out)
      by_cases h92 : s[k] = 92
      · obtain ⟨q1, q2⟩ := tk_beq (n := 92) rfl h92
        have H92 := Lib.hid h92
        have hns := Tk.not_sep h32 h59 h40 h41 h34
        clear h59 h32 h40 h41 h34 h92 hns
        by_cases hk1 : k + 1 < s.length
        · have hk1i : (k : Int) + 1 < s.length := by omega
          have HD2 := Lib.hid (List.drop_eq_getElem_cons hk1)
          have T2 := Lib.hid (show (s.drop k).take 2 = [s[k], s[k + 1]] by rw [HD.out, HD2.out]; rfl)
          have HSP := Lib.hid (show Tk.pend { x3 with inn := true, wd := x3.wd ++ [s[k], s[k + 1]] } (s.drop (k + 2)) st' n = Tk.read s (st.begin s) n by
            rw [← HPR.out, ← HPC.out, HD2.out, H92.out, Tk.pend_stroke HL3.out])
          have hwk1 : IntKind.i64.wrap ((k : Int) + 2) = k + 2 := IntWalk.i64_in _ (by omega)
          have hk02 : (k : Int) ≤ (k : Int) + 2 := by omega
          have hk03 : (k : Int) + 2 ≤ s.length := by omega
          gi_wp2_with fail
          refine (callsIn_wide.2 (rbegin_any Z b x' false _ HR.out)).mono ?_
          rintro e w3 ⟨rfl, hr3, hk3⟩
          rw [HX3.out] at hr3
          have HR3 := Lib.hid hr3
          have HK3 := Lib.hid (HK.out.trans hk3)
          obtain ⟨vo3, o3, cap3, hcell3, hz3, hb3, _⟩ := hr3.cells
          have c8 := hcell3 8 _ rfl
          clear hr3 hk3 hcell3
          gi_wp2_with fail
          obtain ⟨W5, hW5, HR5, HK5⟩ : ∃ W, w3.setCell ⟨b, 8, none⟩ (.bool true) = W ∧ Hid (Tk.LxRd Z b { x3 with inn := true } W) ∧ Hid (Keep Z w W) := ⟨_, rfl, Lib.hid (HR3.out.setInn true), Lib.hid (HK3.out.setCell HR3.out.bz _)⟩
          rw [hW5]
          clear hW5 c8 hz3 hb3
          refine drawnH [4] (fun w' => w'.cell? ⟨b, 7, none⟩ = some (S ({ x3 with inn := true }).wd)) 14 rfl (by kernel_rfl) ?_
          intro w' hw'
          obtain ⟨HRd, HKd⟩ : Hid (Tk.LxRd Z b ({ x3 with inn := true }) w') ∧ Hid (Keep Z w w') := by subst hw'; exact ⟨Lib.hid HR5.out.drew, Lib.hid HK5.out.drew⟩
          clear hw'
          obtain ⟨vo1, o1, cap1, hcell1, hz1, hb1, _⟩ := HRd.out.cells
          have hS : w'.cell? ⟨b, 7, none⟩ = some (S ({ x3 with inn := true }).wd) := hcell1 7 _ rfl
          have c71 := hcell1 7 _ rfl
          clear hcell1
          refine takeP 0 (v := ?rdav0) (fun _ => trivial) (by rfl) (by kernel_rfl) (.inl ⟨by kernel_rfl, fun w1 _ => ?rday0⟩) ?_
          case rday0 => (go_simp; try first | rfl | (rw [if_pos (by omega)]) | (rw [if_neg (by omega)]) | (rw [if_neg (by simp; omega)]) | (split <;> first | (exfalso; omega) | rfl))
          refine takeP 1 (v := ?rdav1) (fun _ => trivial) (by rfl) (by kernel_rfl) (.inl ⟨by kernel_rfl, fun w1 _ => ?rday1⟩) ?_
          case rday1 => (go_simp; try first | rfl | (rw [if_pos (by omega)]) | (rw [if_neg (by omega)]) | (rw [if_neg (by simp; omega)]) | (split <;> first | (exfalso; omega) | rfl))
          refine takeP 2 (v := ?rdav2) (fun _ => trivial) (by rfl) (by kernel_rfl) (.inl ⟨by kernel_rfl, fun w1 _ => ?rday2⟩) ?_
          case rday2 => (go_simp; try first | rfl | (rw [if_pos (by omega)]) | (rw [if_neg (by omega)]) | (rw [if_neg (by simp; omega)]) | (split <;> first | (exfalso; omega) | rfl))
          refine takeP 3 (v := ?rdav3) (fun _ => trivial) (by rfl) (by kernel_rfl) (.inl ⟨by kernel_rfl, fun w1 _ => ?rday3⟩) ?_
          case rday3 => (go_simp; try first | rfl | (rw [if_pos (by omega)]) | (rw [if_neg (by omega)]) | (rw [if_neg (by simp; omega)]) | (split <;> first | (exfalso; omega) | rfl))
          refine takeP 5 (v := ?rdav5) (fun _ => trivial) (by rfl) (by kernel_rfl) (.inl ⟨by kernel_rfl, fun w1 _ => ?rday5⟩) ?_
          case rday5 => (go_simp; try first | rfl | (rw [if_pos (by omega)]) | (rw [if_neg (by omega)]) | (rw [if_neg (by simp; omega)]) | (split <;> first | (exfalso; omega) | rfl))
          refine takeP 6 (v := ?rdav6) (fun _ => trivial) (by rfl) (by kernel_rfl) (.inl ⟨by kernel_rfl, fun w1 _ => ?rday6⟩) ?_
          case rday6 => (go_simp; try first | rfl | (rw [if_pos (by omega)]) | (rw [if_neg (by omega)]) | (rw [if_neg (by simp; omega)]) | (split <;> first | (exfalso; omega) | rfl))
          refine takeP 7 (v := ?rdav7) (fun _ => trivial) (by rfl) (by kernel_rfl) (.inl ⟨by kernel_rfl, fun w1 _ => ?rday7⟩) ?_
          case rday7 => (go_simp; try first | rfl | (rw [if_pos (by omega)]) | (rw [if_neg (by omega)]) | (rw [if_neg (by simp; omega)]) | (split <;> first | (exfalso; omega) | rfl))
          refine takeP 8 (v := ?rdav8) (fun _ => trivial) (by rfl) (by kernel_rfl) (.inl ⟨by kernel_rfl, fun w1 _ => ?rday8⟩) ?_
          case rday8 => (go_simp; try first | rfl | (rw [if_pos (by omega)]) | (rw [if_neg (by omega)]) | (rw [if_neg (by simp; omega)]) | (split <;> first | (exfalso; omega) | rfl))
          refine takeP 9 (v := ?rdav9) (fun _ => trivial) (by rfl) (by kernel_rfl) (.inl ⟨by kernel_rfl, fun w1 _ => ?rday9⟩) ?_
          case rday9 => (go_simp; try first | rfl | (rw [if_pos (by omega)]) | (rw [if_neg (by omega)]) | (rw [if_neg (by simp; omega)]) | (split <;> first | (exfalso; omega) | rfl))
          refine takeH 4 (v := ?rdav4) (fun _ => trivial) (by rfl) (by kernel_rfl) hS (.inl ⟨by kernel_rfl, fun w1 a1 => ?rday4⟩) ?_
          case rday4 => (go_simp; try first | rfl | (rw [if_pos (by omega)]) | (rw [if_neg (by omega)]) | (rw [if_neg (by simp; omega)]) | (split <;> first | (exfalso; omega) | rfl))
          refine takeP 10 (v := ?rdav10) (fun _ => trivial) (by rfl) (by kernel_rfl) (.inl ⟨by kernel_rfl, fun w1 _ => ?rday10⟩) ?_
          case rday10 => (go_simp; try first | rfl | (rw [if_pos (by omega)]) | (rw [if_neg (by omega)]) | (rw [if_neg (by simp; omega)]) | (split <;> first | (exfalso; omega) | rfl))
          refine takeP 11 (v := ?rdav11) (fun _ => trivial) (by rfl) (by kernel_rfl) (.inl ⟨by kernel_rfl, fun w1 _ => ?rday11⟩) ?_
          case rday11 => (go_simp; try first | rfl | (rw [if_pos (by omega)]) | (rw [if_neg (by omega)]) | (rw [if_neg (by simp; omega)]) | (split <;> first | (exfalso; omega) | rfl))
          refine takeP 12 (v := ?rdav12) (fun _ => trivial) (by rfl) (by kernel_rfl) (.inl ⟨by kernel_rfl, fun w1 _ => ?rday12⟩) ?_
          case rday12 => (go_simp; try first | rfl | (rw [if_pos (by omega)]) | (rw [if_neg (by omega)]) | (rw [if_neg (by simp; omega)]) | (split <;> first | (exfalso; omega) | rfl))
          refine oneH 13 (by rfl) (by kernel_rfl) (fun K hK => ?_)
          gi_wp2_with fail
          rw [append_S, T2.out]
          obtain ⟨W6, hW6, HR6, HK6⟩ : ∃ W, w'.setCell ⟨b, 7, none⟩ (S (x3.wd ++ [s[k], s[k + 1]])) = W ∧ Hid (Tk.LxRd Z b { ({ x3 with inn := true }) with wd := x3.wd ++ [s[k], s[k + 1]] } W) ∧ Hid (Keep Z w W) := ⟨_, rfl, Lib.hid (HRd.out.setWd _), Lib.hid (HKd.out.setCell HRd.out.bz _)⟩
          rw [hW6]
          refine hK _ _ (fun h => absurd h (by decide)) ?_
          clear hK K hW6 hS c71 HRd HKd hz1 hb1
          refine doneH (by kernel_rfl) ?_
          gi_wp2_with fail
          refine ⟨⟨k + 2, { x3 with inn := true, wd := x3.wd ++ [s[k], s[k + 1]] }, st', by go_num, ⟨by omega, HL3.out.char HON3.out _, HSP.out, HR6.out, HK6.out, HLI.out.deep, ?_, ?_, ?_⟩⟩, by simp [intOf]; omega⟩
          · show x3.words.length + 1 ≤ _; rw [HWW3.out]; have := HWW.out; split at this <;> omega
          · show (x3.wd ++ [s[k], s[k + 1]]).length ≤ _; rw [HWD3.out]; have := HLI.out.wd; simp; omega
          · show x3.out = _; rw [HOO3.out]; exact HLI.out.out
        · have hk1i : ¬ ((k : Int) + 1 < s.length) := by omega
          have hk2i : (s.length : Int) ≤ (k : Int) + 1 := by omega
          have HSP := Lib.hid (show Tk.read s (st.begin s) n = .error 2 by
            rw [← HPR.out, H92.out, List.drop_of_length_le (by omega), Tk.pend_lone])
          clear hk1
          gi_wp2_with fail
          go_ret
          exact LnP.err 2 (by decide) HSP.out HK.out
      · obtain ⟨q1, q2⟩ := tk_bne (n := 92) (b := 92) rfl h92
        have hns := Tk.not_sep h32 h59 h40 h41 h34
        have HSP := Lib.hid (show Tk.pend { x3 with inn := true, wd := x3.wd ++ [s[k]] } (s.drop (k + 1)) st' n = Tk.read s (st.begin s) n by
          rw [← HPR.out, ← HPC.out, Tk.pend_char HL3.out _ _ hns h92])
        have T1 := Lib.hid (take_one s k hlt)
        have hwk1 : IntKind.i64.wrap ((k : Int) + 1) = k + 1 := IntWalk.i64_in _ (by omega)
        have hk02 : (k : Int) ≤ (k : Int) + 1 := by omega
        clear h59 h32 h40 h41 h34 h92 hns
        gi_wp2_with fail
        refine (callsIn_wide.2 (rbegin_any Z b x' false _ HR.out)).mono ?_
        rintro e w3 ⟨rfl, hr3, hk3⟩
        rw [HX3.out] at hr3
        have HR3 := Lib.hid hr3
        have HK3 := Lib.hid (HK.out.trans hk3)
        obtain ⟨vo3, o3, cap3, hcell3, hz3, hb3, _⟩ := hr3.cells
        have c8 := hcell3 8 _ rfl
        clear hr3 hk3 hcell3
        gi_wp2_with fail
        obtain ⟨W5, hW5, HR5, HK5⟩ : ∃ W, w3.setCell ⟨b, 8, none⟩ (.bool true) = W ∧ Hid (Tk.LxRd Z b { x3 with inn := true } W) ∧ Hid (Keep Z w W) := ⟨_, rfl, Lib.hid (HR3.out.setInn true), Lib.hid (HK3.out.setCell HR3.out.bz _)⟩
        rw [hW5]
        clear hW5 c8 hz3 hb3
        refine drawnH [4] (fun w' => w'.cell? ⟨b, 7, none⟩ = some (S ({ x3 with inn := true }).wd)) 14 rfl (by kernel_rfl) ?_
        intro w' hw'
        obtain ⟨HRd, HKd⟩ : Hid (Tk.LxRd Z b ({ x3 with inn := true }) w') ∧ Hid (Keep Z w w') := by subst hw'; exact ⟨Lib.hid HR5.out.drew, Lib.hid HK5.out.drew⟩
        clear hw'
        obtain ⟨vo1, o1, cap1, hcell1, hz1, hb1, _⟩ := HRd.out.cells
        have hS : w'.cell? ⟨b, 7, none⟩ = some (S ({ x3 with inn := true }).wd) := hcell1 7 _ rfl
        have c71 := hcell1 7 _ rfl
        clear hcell1
        refine takeP 0 (v := ?rdbv0) (fun _ => trivial) (by rfl) (by kernel_rfl) (.inl ⟨by kernel_rfl, fun w1 _ => ?rdby0⟩) ?_
        case rdby0 => (go_simp; try first | rfl | (rw [if_pos (by omega)]) | (rw [if_neg (by omega)]) | (rw [if_neg (by simp; omega)]) | (split <;> first | (exfalso; omega) | rfl))
        refine takeP 1 (v := ?rdbv1) (fun _ => trivial) (by rfl) (by kernel_rfl) (.inl ⟨by kernel_rfl, fun w1 _ => ?rdby1⟩) ?_
        case rdby1 => (go_simp; try first | rfl | (rw [if_pos (by omega)]) | (rw [if_neg (by omega)]) | (rw [if_neg (by simp; omega)]) | (split <;> first | (exfalso; omega) | rfl))
        refine takeP 2 (v := ?rdbv2) (fun _ => trivial) (by rfl) (by kernel_rfl) (.inl ⟨by kernel_rfl, fun w1 _ => ?rdby2⟩) ?_
        case rdby2 => (go_simp; try first | rfl | (rw [if_pos (by omega)]) | (rw [if_neg (by omega)]) | (rw [if_neg (by simp; omega)]) | (split <;> first | (exfalso; omega) | rfl))
        refine takeP 3 (v := ?rdbv3) (fun _ => trivial) (by rfl) (by kernel_rfl) (.inl ⟨by kernel_rfl, fun w1 _ => ?rdby3⟩) ?_
        case rdby3 => (go_simp; try first | rfl | (rw [if_pos (by omega)]) | (rw [if_neg (by omega)]) | (rw [if_neg (by simp; omega)]) | (split <;> first | (exfalso; omega) | rfl))
        refine takeP 5 (v := ?rdbv5) (fun _ => trivial) (by rfl) (by kernel_rfl) (.inl ⟨by kernel_rfl, fun w1 _ => ?rdby5⟩) ?_
        case rdby5 => (go_simp; try first | rfl | (rw [if_pos (by omega)]) | (rw [if_neg (by omega)]) | (rw [if_neg (by simp; omega)]) | (split <;> first | (exfalso; omega) | rfl))
        refine takeP 6 (v := ?rdbv6) (fun _ => trivial) (by rfl) (by kernel_rfl) (.inl ⟨by kernel_rfl, fun w1 _ => ?rdby6⟩) ?_
        case rdby6 => (go_simp; try first | rfl | (rw [if_pos (by omega)]) | (rw [if_neg (by omega)]) | (rw [if_neg (by simp; omega)]) | (split <;> first | (exfalso; omega) | rfl))
        refine takeP 7 (v := ?rdbv7) (fun _ => trivial) (by rfl) (by kernel_rfl) (.inl ⟨by kernel_rfl, fun w1 _ => ?rdby7⟩) ?_
        case rdby7 => (go_simp; try first | rfl | (rw [if_pos (by omega)]) | (rw [if_neg (by omega)]) | (rw [if_neg (by simp; omega)]) | (split <;> first | (exfalso; omega) | rfl))
        refine takeP 8 (v := ?rdbv8) (fun _ => trivial) (by rfl) (by kernel_rfl) (.inl ⟨by kernel_rfl, fun w1 _ => ?rdby8⟩) ?_
        case rdby8 => (go_simp; try first | rfl | (rw [if_pos (by omega)]) | (rw [if_neg (by omega)]) | (rw [if_neg (by simp; omega)]) | (split <;> first | (exfalso; omega) | rfl))
        refine takeP 9 (v := ?rdbv9) (fun _ => trivial) (by rfl) (by kernel_rfl) (.inl ⟨by kernel_rfl, fun w1 _ => ?rdby9⟩) ?_
        case rdby9 => (go_simp; try first | rfl | (rw [if_pos (by omega)]) | (rw [if_neg (by omega)]) | (rw [if_neg (by simp; omega)]) | (split <;> first | (exfalso; omega) | rfl))
        refine takeH 4 (v := ?rdbv4) (fun _ => trivial) (by rfl) (by kernel_rfl) hS (.inl ⟨by kernel_rfl, fun w1 a1 => ?rdby4⟩) ?_
        case rdby4 => (go_simp; try first | rfl | (rw [if_pos (by omega)]) | (rw [if_neg (by omega)]) | (rw [if_neg (by simp; omega)]) | (split <;> first | (exfalso; omega) | rfl))
        refine takeP 10 (v := ?rdbv10) (fun _ => trivial) (by rfl) (by kernel_rfl) (.inl ⟨by kernel_rfl, fun w1 _ => ?rdby10⟩) ?_
        case rdby10 => (go_simp; try first | rfl | (rw [if_pos (by omega)]) | (rw [if_neg (by omega)]) | (rw [if_neg (by simp; omega)]) | (split <;> first | (exfalso; omega) | rfl))
        refine takeP 11 (v := ?rdbv11) (fun _ => trivial) (by rfl) (by kernel_rfl) (.inl ⟨by kernel_rfl, fun w1 _ => ?rdby11⟩) ?_
        case rdby11 => (go_simp; try first | rfl | (rw [if_pos (by omega)]) | (rw [if_neg (by omega)]) | (rw [if_neg (by simp; omega)]) | (split <;> first | (exfalso; omega) | rfl))
        refine takeP 12 (v := ?rdbv12) (fun _ => trivial) (by rfl) (by kernel_rfl) (.inl ⟨by kernel_rfl, fun w1 _ => ?rdby12⟩) ?_
        case rdby12 => (go_simp; try first | rfl | (rw [if_pos (by omega)]) | (rw [if_neg (by omega)]) | (rw [if_neg (by simp; omega)]) | (split <;> first | (exfalso; omega) | rfl))
        refine oneH 13 (by rfl) (by kernel_rfl) (fun K hK => ?_)
        gi_wp2_with fail
        rw [append_S, T1.out]
        obtain ⟨W6, hW6, HR6, HK6⟩ : ∃ W, w'.setCell ⟨b, 7, none⟩ (S (x3.wd ++ [s[k]])) = W ∧ Hid (Tk.LxRd Z b { ({ x3 with inn := true }) with wd := x3.wd ++ [s[k]] } W) ∧ Hid (Keep Z w W) := ⟨_, rfl, Lib.hid (HRd.out.setWd _), Lib.hid (HKd.out.setCell HRd.out.bz _)⟩
        rw [hW6]
        refine hK _ _ (fun h => absurd h (by decide)) ?_
        clear hK K hW6 hS c71 HRd HKd hz1 hb1
        refine doneH (by kernel_rfl) ?_
        gi_wp2_with fail
        refine ⟨⟨k + 1, { x3 with inn := true, wd := x3.wd ++ [s[k]] }, st', by go_num, ⟨by omega, HL3.out.char HON3.out _, HSP.out, HR6.out, HK6.out, HLI.out.deep, ?_, ?_, ?_⟩⟩, by simp [intOf]; omega⟩
        · show x3.words.length + 1 ≤ _; rw [HWW3.out]; have := HWW.out; split at this <;> omega
        · show (x3.wd ++ [s[k]]).length ≤ _; rw [HWD3.out]; have := HLI.out.wd; simp; omega
        · show x3.out = _; rw [HOO3.out]; exact HLI.out.out
    · have hge : (s.length : Int) ≤ k := by omega
      have HSP := Lib.hid (show Tk.read s (st.begin s) n = .ok st1 by
        have hpr := HLI.out.spec
        rw [List.drop_of_length_le (by omega), Tk.pend_stop _ _ (.inl rfl), HST1.out, Tk.read_nil] at hpr
        exact hpr.symm)
      clear hlt
      gi_wp2_with fail
      refine (callsIn_wide.2 (rflush_any Z b x' false n _ HR.out HXW.out)).mono ?_
      rintro e w2 ⟨rfl, hr2, hk2⟩
      rw [HX1.out] at hr2
      have HK2 := Lib.hid (HK.out.trans hk2)
      gi_wp2_with fail
      refine (callsIn_wide.2 (rend_any Z b x1 _ hr2 (by rw [HO1.out]; have := HOL.out; omega) (by have := HW1.out; have := HWL.out; omega))).mono ?_
      rintro e w3 ⟨rfl, hr3, hk3⟩
      gi_wp2_with fail
      go_ret
      exact LnP.ok st1 x1.fin HSP.out (HK2.out.trans hk3) hr3 (HL1.out.fin HI1.out)

end Go.Proofs.Yticljagcigiejaa
