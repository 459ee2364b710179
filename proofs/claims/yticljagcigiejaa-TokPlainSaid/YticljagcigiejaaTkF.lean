/- A reader reads a line. -/
import Derived.Test.YticljagcigiejaaTkE
namespace Go.Proofs.Yticljagcigiejaa
open Go.RowKit Go.Shelf
set_option maxRecDepth 100000

theorem Tk.Rest.less {TE TW Z Z' b Fz vo vw vp us st} {W : World} (h : Tk.Rest TE TW Z' b Fz vo vw vp us st W) (hz : ∀ g, Z g → Z' g) : Tk.Rest TE TW Z b Fz vo vw vp us st W :=
  h.more Z (fun e => h.bz (hz b e)) (fun g hg => h.zl g (hz g hg)) (fun g hg e => (h.fl g hg).1 (hz g e)) (fun g hg e => (h.rp.2 g hg).1 (hz g e)) (fun g hg e => (h.ro.2 g hg).1.1 (hz g e)) (fun g hg e => (h.rw.2 g hg).1.1.1 (hz g e))
theorem Tk.Rdr.less {Z Z' b st cu bg} {W : World} (h : Tk.Rdr Z' b st cu bg W) (hz : ∀ g, Z g → Z' g) : Tk.Rdr Z b st cu bg W := by
  obtain ⟨Fz, vo, vw, vp, us, hc, hr⟩ := h
  exact ⟨Fz, vo, vw, vp, us, hc, hr.less hz⟩
theorem Tk.Rdr.kept {Z b st cu bg} {W W' : World} (h : Tk.Rdr Z b st cu bg W) (hs : W.heap.size ≤ W'.heap.size) (hk : ∀ g, ¬ Z g → g < W.heap.size → W'.heap[g]? = W.heap[g]?) : Tk.Rdr Z b st cu bg W' := by
  obtain ⟨Fz, vo, vw, vp, us, hc, hr⟩ := h
  exact ⟨Fz, vo, vw, vp, us, (hk b hr.bz hr.bl).trans hc, hr.kept hs (fun g hz _ hl => hk g hz hl)⟩
theorem Tk.Rdr.alloc {Z b st cu bg} {W : World} (h : Tk.Rdr Z b st cu bg W) (o : Obj) : Tk.Rdr Z b st cu bg (W.alloc o) := h.kept (by simp) (fun g _ hl => Below.heap_alloc _ _ _ hl)
theorem Tk.Rdr.box {Z b st cu bg} {W : World} (h : Tk.Rdr Z b st cu bg W) (o : Obj) : Tk.Rdr (fun g => Z g ∨ g = W.heap.size) b st cu bg (W.alloc o) := by
  obtain ⟨Fz, vo, vw, vp, us, hc, hr⟩ := h
  refine ⟨Fz, vo, vw, vp, us, (Below.heap_alloc _ _ _ hr.bl).trans hc, (hr.alloc o).more _ (fun e => e.elim hr.bz (fun e => ?_)) (fun g hg => hg.elim (fun h => by have := hr.zl g h; simp; omega) (fun h => by simp; omega)) (fun g hg e => e.elim (hr.fl g hg).1 (fun e => ?_)) (fun g hg e => e.elim (hr.rp.2 g hg).1 (fun e => ?_)) (fun g hg e => e.elim (hr.ro.2 g hg).1.1 (fun e => ?_)) (fun g hg e => e.elim (hr.rw.2 g hg).1.1.1 (fun e => ?_))⟩
  · have := hr.bl; omega
  · have := (hr.fl g hg).2.2; omega
  · have := Tk.row_lt hr.rp hg; omega
  · have := Tk.row_lt hr.ro hg; omega
  · have := Tk.row_lt hr.rw hg; omega
theorem Tk.Rdr.zl {Z b st cu bg} {W : World} (h : Tk.Rdr Z b st cu bg W) : ∀ g, Z g → g < W.heap.size := by
  obtain ⟨Fz, vo, vw, vp, us, hc, hr⟩ := h
  exact hr.zl

def strLen : Value → Nat | .string b => b.size | _ => 0
theorem strLen_S (l : List UInt8) : strLen (S l) = l.length := rfl
/-- between two words of a line -/
def Tk.RdI (Z : Nat → Prop) (b : Nat) (s : List UInt8) (st : St) (n : Nat) (bg : Bool) (w : World) (v : Value) (wr : World) : Prop :=
  ∃ s' st', v = S s' ∧ Tk.read s' st' n = Tk.read s st n ∧ Rdr Z b st' n bg wr ∧ Keep Z w wr ∧ st'.opens.length ≤ 8 ∧ st'.words.length + s'.length ≤ 900000 ∧ st'.out.length ≤ 900000
def Tk.RdP (Z : Nat → Prop) (b : Nat) (s : List UInt8) (st : St) (n : Nat) (bg : Bool) (w : World) (e : Ending) (w' : World) : Prop :=
  Keep Z w w' ∧ ((∃ st', Tk.read s st n = .ok st' ∧ e = .returned (.int .i64 0) ∧ Rdr Z b st' n bg w' ∧ st'.opens.length ≤ 8 ∧ st'.words.length ≤ 900000 ∧ st'.out.length ≤ 900000) ∨ ∃ z, Tk.read s st n = .error z ∧ z ≠ 0 ∧ e = .returned (.int .i64 z))

set_option maxHeartbeats 8000000 in
theorem tread_any (Z : Nat → Prop) (b : Nat) (s : List UInt8) (st : Tk.St) (n : Nat) (bg : Bool) (w : World) (h : Tk.Rdr Z b st n bg w) (ho : st.opens.length ≤ 8) (hw : st.words.length + s.length ≤ 900000) (hout : st.out.length ≤ 900000) :
    Calls Try.prog 29 #[.pointer (some ⟨b, 0, none⟩), S s] w (Tk.RdP Z b s st n bg w) := by
  have HH := Lib.hid h
  have HO := Lib.hid hout
  clear h
  go_enter Try.func29, Try.ntmps29
  go_wp2
  go_loopw [1] (fun v wr => Tk.RdI Z b s st n bg w v wr) (fun v _ => strLen v)
  case atStart => exact ⟨s, st, rfl, rfl, HH.out, Keep.refl _ _, ho, hw, HO.out⟩
  case round =>
    obtain ⟨s', st', rfl, hrd, hr, hk, hop, hwl, hol⟩ := hrel
    have HRD := Lib.hid hrd
    have HR := Lib.hid hr
    have HK := Lib.hid hk
    have HOL := Lib.hid hol
    have hZL := hr.zl
    have HZL := Lib.hid hZL
    clear hrd hr hk hZL hol HH
    rcases s' with _ | ⟨c, r⟩
    · go_wp2_with fail
      go_ret
      exact ⟨HK.out, .inl ⟨st', by rw [← HRD.out, Tk.read_nil], rfl, HR.out, hop, by simp at hwl; omega, HOL.out⟩⟩
    · have hrl : (r.length : Int) ≤ 900000 := by simp at hwl; omega
      by_cases h32 : c = 32 ∨ c = 9
      · have HN := Lib.hid ((Tk.read_blank r st' n h32).symm.trans HRD.out)
        rcases h32 with rfl | rfl
        all_goals
          go_wp2_with fail
          refine ⟨⟨r, st', rfl, HN.out, HR.out.alloc _, HK.out.alloc HZL.out _, hop, by simp at hwl; omega, HOL.out⟩, ?_⟩
          exact (show r.length < r.length + 1 by omega)
      by_cases h59 : c = 59
      · subst h59
        clear h32
        go_wp2_with fail
        go_ret
        exact ⟨HK.out.alloc HZL.out _, .inl ⟨st', by rw [← HRD.out, Tk.read_rem], rfl, HR.out.alloc _, hop, by simp at hwl; omega, HOL.out⟩⟩
      by_cases h40 : c = 40
      · subst h40
        clear h32 h59
        have hrr := HRD.out
        rw [Tk.read_open] at hrr
        by_cases h8 : st'.opens.length = 8
        · rw [if_pos h8] at hrr
          have HE := Lib.hid hrr
          have H8 := Lib.hid h8
          clear hrr h8
          go_wp2_with fail
          refine (tdeep_any Z b st' n bg _ (HR.out.alloc _) H8.out).mono ?_
          rintro e w2 ⟨rfl, rfl⟩
          go_wp2_with fail
          go_ret
          exact ⟨HK.out.alloc HZL.out _, .inr ⟨10, HE.out.symm, by decide, rfl⟩⟩
        · rw [if_neg h8] at hrr
          have HE := Lib.hid hrr
          have H8 := Lib.hid (show st'.opens.length < 8 by omega)
          clear hrr h8
          go_wp2_with fail
          refine (topen_any _ b st' n bg _ (HR.out.box _) H8.out).mono ?_
          rintro e w2 ⟨rfl, hr2, hk2⟩
          have hbx := (hk2.block wr.heap.size (.inr rfl)).trans (World.alloc_heap_new wr _)
          have c0 := cells_of hbx 0 _ rfl
          have c1 := cells_of hbx 1 _ rfl
          have HR2 := Lib.hid (hr2.less (Z := Z) (fun g h => .inl h))
          have HK2 := Lib.hid ((HK.out.alloc HZL.out _).trans (hk2.mono (fun g h => .inl h)))
          clear hr2 hk2 hbx
          go_wp2_with fail
          refine ⟨⟨r, st'.open n, rfl, HE.out, HR2.out, HK2.out, by have := H8.out; simp [Tk.St.open]; omega, by simp [Tk.St.open] at hwl ⊢; omega, HOL.out⟩, ?_⟩
          exact (show r.length < r.length + 1 by omega)
      by_cases h41 : c = 41
      · subst h41
        clear h32 h59 h40
        have hrr := HRD.out
        rw [Tk.read_close] at hrr
        by_cases h8 : st'.opens = []
        · rw [if_pos h8] at hrr
          have HE := Lib.hid hrr
          have H8 := Lib.hid h8
          clear hrr h8
          go_wp2_with fail
          refine (tnone_any Z b st' n bg _ (HR.out.alloc _) H8.out).mono ?_
          rintro e w2 ⟨rfl, rfl⟩
          go_wp2_with fail
          go_ret
          exact ⟨HK.out.alloc HZL.out _, .inr ⟨2, HE.out.symm, by decide, rfl⟩⟩
        · rw [if_neg h8] at hrr
          have HE := Lib.hid hrr
          have H8 := Lib.hid h8
          clear hrr h8
          go_wp2_with fail
          refine (tclose_any _ b st' n bg _ (HR.out.box _) H8.out hop).mono ?_
          rintro e w2 ⟨rfl, hr2, hk2⟩
          have hbx := (hk2.block wr.heap.size (.inr rfl)).trans (World.alloc_heap_new wr _)
          have c0 := cells_of hbx 0 _ rfl
          have c1 := cells_of hbx 1 _ rfl
          have HR2 := Lib.hid (hr2.less (Z := Z) (fun g h => .inl h))
          have HK2 := Lib.hid ((HK.out.alloc HZL.out _).trans (hk2.mono (fun g h => .inl h)))
          clear hr2 hk2 hbx
          go_wp2_with fail
          refine ⟨⟨r, st'.close, rfl, HE.out, HR2.out, HK2.out, by simp [Tk.St.close]; omega, by simp [Tk.St.close] at hwl ⊢; omega, HOL.out⟩, ?_⟩
          exact (show r.length < r.length + 1 by omega)
      by_cases h34 : c = 34
      · subst h34
        clear h32 h59 h40 h41
        have hrr := HRD.out
        rw [Tk.read_quo] at hrr
        rcases hq : Tk.quo r with _ | t
        · rw [hq] at hrr
          have HE := Lib.hid hrr
          have HQ := Lib.hid (show Tk.quoR (34 :: r) = ([], 0, 2) by unfold Tk.quoR; simp [hq])
          clear hrr hq
          go_wp2_with fail
          refine (quoted_any (34 :: r) _ (by simp at hwl ⊢; omega) (by simp)).mono ?_
          rintro e w2 ⟨rfl, rfl⟩
          rw [HQ.out]
          go_wp2_with fail
          go_ret
          exact ⟨HK.out.alloc HZL.out _, .inr ⟨2, HE.out.symm, by decide, rfl⟩⟩
        · rw [hq] at hrr
          have HE := Lib.hid hrr
          have hql := Tk.quo_len _ r t (Nat.le_refl _) hq
          have hql' : (t.length : Int) + 1 ≤ r.length := by omega
          have HQ := Lib.hid (show Tk.quoR (34 :: r) = (t, (t.length : Int) + 2, 0) by unfold Tk.quoR; simp [hq])
          clear hrr hq
          go_wp2_with fail
          refine (quoted_any (34 :: r) _ (by simp at hwl ⊢; omega) (by simp)).mono ?_
          rintro e w2 ⟨rfl, rfl⟩
          rw [HQ.out]
          go_wp2_with fail
          refine (tput_any Z b st' n bg (t, true) _ (HR.out.alloc _) (by simp at hwl; omega)).mono ?_
          rintro e w2 ⟨rfl, hr2, hk2⟩
          have HR2 := Lib.hid hr2
          have HK2 := Lib.hid ((HK.out.alloc HZL.out _).trans hk2)
          clear hr2 hk2
          go_wp2_with fail
          rw [show List.take (r.length + 1 - (t.length + 2)) (List.drop (t.length + 2) (34 :: r)) = r.drop (t.length + 1) by rw [List.take_of_length_le (by simp)]; rfl]
          exact ⟨⟨r.drop (t.length + 1), _, rfl, HE.out, HR2.out, HK2.out, hop, by simp [Tk.St.put] at hwl ⊢; omega, HOL.out⟩, (show (r.drop (t.length + 1)).length < r.length + 1 by simp; omega)⟩
      · have hsp := Tk.not_sep h32 h59 h40 h41 h34
        obtain ⟨f1, g1⟩ := tk_bne (n := 32) (b := 32) rfl (show c ≠ 32 from fun e => h32 (.inl e))
        obtain ⟨f2, g2⟩ := tk_bne (n := 9) (b := 9) rfl (show c ≠ 9 from fun e => h32 (.inr e))
        obtain ⟨f3, g3⟩ := tk_bne (n := 59) (b := 59) rfl h59
        obtain ⟨f4, g4⟩ := tk_bne (n := 40) (b := 40) rfl h40
        obtain ⟨f5, g5⟩ := tk_bne (n := 41) (b := 41) rfl h41
        obtain ⟨f6, g6⟩ := tk_bne (n := 34) (b := 34) rfl h34
        clear h32 h59 h40 h41 h34
        have hrr := HRD.out
        rw [Tk.read_bare st' n hsp] at hrr
        rcases hq : Tk.bare (c :: r) with _ | t
        · rw [hq] at hrr
          have HE := Lib.hid hrr
          have HQ := Lib.hid (show Tk.bareR (c :: r) = ([], 0, 2) by unfold Tk.bareR; simp [hq])
          clear hrr hq hsp
          go_wp2_with fail
          refine (bare_any (c :: r) _ (by simp at hwl ⊢; omega)).mono ?_
          rintro e w2 ⟨rfl, rfl⟩
          rw [HQ.out]
          go_wp2_with fail
          go_ret
          exact ⟨HK.out.alloc HZL.out _, .inr ⟨2, HE.out.symm, by decide, rfl⟩⟩
        · rw [hq] at hrr
          have HE := Lib.hid hrr
          have hql := Tk.bare_len _ (c :: r) t (Nat.le_refl _) hq
          have hqp := Tk.bare_pos hsp hq
          have hql' : (t.length : Int) ≤ r.length + 1 := by simp at hql; omega
          have hqp' : t.isEmpty = false := by cases t with
            | nil => simp at hqp
            | cons _ _ => rfl
          have HQ := Lib.hid (show Tk.bareR (c :: r) = (t, (t.length : Int), 0) by unfold Tk.bareR; simp [hq])
          have HQP := Lib.hid hqp
          clear hrr hq hsp hqp
          go_wp2_with fail
          refine (bare_any (c :: r) _ (by simp at hwl ⊢; omega)).mono ?_
          rintro e w2 ⟨rfl, rfl⟩
          rw [HQ.out]
          go_wp2_with fail
          refine (tput_any Z b st' n bg (t, false) _ (HR.out.alloc _) (by simp at hwl; omega)).mono ?_
          rintro e w2 ⟨rfl, hr2, hk2⟩
          have HR2 := Lib.hid hr2
          have HK2 := Lib.hid ((HK.out.alloc HZL.out _).trans hk2)
          clear hr2 hk2
          go_wp2_with fail
          rw [show List.take (r.length + 1 - t.length) (List.drop t.length (c :: r)) = (c :: r).drop t.length by rw [List.take_of_length_le (by simp)]]
          exact ⟨⟨(c :: r).drop t.length, _, rfl, HE.out, HR2.out, HK2.out, hop, by have := HQP.out; simp [Tk.St.put] at hwl ⊢; omega, HOL.out⟩, (show ((c :: r).drop t.length).length < r.length + 1 by have := HQP.out; simp; omega)⟩
end Go.Proofs.Yticljagcigiejaa
