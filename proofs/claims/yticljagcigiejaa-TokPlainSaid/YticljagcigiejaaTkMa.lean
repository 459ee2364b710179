/- The reference's lexer reads a line. -/
import Derived.Test.YticljagcigiejaaTkL
namespace Go.Proofs.Yticljagcigiejaa
open Go.RowKit Go.Shelf
set_option maxRecDepth 100000

namespace Tk
theorem Lx.flush_len (x : Lx) (n : Nat) : (x.flush false n).words.length = x.words.length + (if x.inn = true then 1 else 0) ∧ (x.flush false n).out = x.out ∧ (x.flush false n).opn = x.opn := by
  unfold Lx.flush
  rcases hi : x.inn with _ | _
  · simp
  · simp
theorem pend_no {x : Lx} (r : List UInt8) (st : St) (n : Nat) (h : x.inn = false) : pend x r st n = read r st n := by unfold pend; rw [if_neg (by rw [h]; decide)]
theorem pend_congr {x y : Lx} (r : List UInt8) (st : St) (n : Nat) (h1 : x.inn = y.inn) (h2 : x.wd = y.wd) : pend x r st n = pend y r st n := by unfold pend; rw [h1, h2]
/-- at the loop's head: at k of the line s -/
structure LnI (Z : Nat → Prop) (b : Nat) (s : List UInt8) (st : St) (n : Nat) (w : World) (k : Nat) (x : Lx) (st' : St) (wr : World) : Prop where
  le : k ≤ s.length
  lin : LIn s x st'
  spec : pend x (s.drop k) st' n = read s (st.begin s) n
  rd : LxRd Z b x wr
  keep : Keep Z w wr
  deep : st'.opens.length ≤ 8
  words : x.words.length + (if x.inn = true then 1 else 0) ≤ st.words.length + k
  wd : x.wd.length ≤ k
  out : x.out = st.out
theorem LnI.start {Z b s st n w x} (h : LxRd Z b x w) (hs : LSim x st) (h8 : st.opens.length ≤ 8) : LnI Z b s st n w 0 x (st.begin s) w :=
  ⟨Nat.zero_le _, hs.begin s, pend_no _ _ _ hs.inn, h, Keep.refl _ _, h8, by rw [hs.inn, hs.words]; simp, by rw [hs.wd]; simp, hs.out⟩
end Tk
def LnP (Z : Nat → Prop) (b : Nat) (st : Tk.St) (s : List UInt8) (n : Nat) (w : World) (e : Ending) (w' : World) : Prop :=
  Keep Z w w' ∧ match Tk.stepL st n s with
  | .error z => z ≠ 0 ∧ e = .returned (.int .i64 z)
  | .ok st' => e = .returned (.int .i64 0) ∧ ∃ x', Tk.LxRd Z b x' w' ∧ Tk.LSim x' st'
theorem LnP.err {Z b st s n} {w w' : World} (z : Int) (hz : z ≠ 0) (h : Tk.read s (st.begin s) n = .error z) (hk : Keep Z w w') : LnP Z b st s n w (.returned (.int .i64 z)) w' := by
  unfold LnP Tk.stepL; rw [h]; exact ⟨hk, hz, rfl⟩
theorem LnP.ok {Z b st s n} {w w' : World} (st1 : Tk.St) (x' : Tk.Lx) (h : Tk.read s (st.begin s) n = .ok st1) (hk : Keep Z w w') (hr : Tk.LxRd Z b x' w') (hs : Tk.LSim x' st1.fin) : LnP Z b st s n w (.returned (.int .i64 0)) w' := by
  unfold LnP Tk.stepL; rw [h]; exact ⟨hk, rfl, x', hr, hs⟩

set_option maxHeartbeats 4000000 in
theorem rline_0 (Z : Nat → Prop) (b : Nat) (x : Tk.Lx) (st : Tk.St) (s : List UInt8) (n : Nat) (w : World) (h : Tk.LxRd Z b x w) (hsim : Tk.LSim x st) (hs : s.length ≤ 900000) (h8 : st.opens.length ≤ 8) (hwl : st.words.length + s.length ≤ 900000) (hol : st.out.length ≤ 900000) (h0 : s = []) (hbl : Tk.isBlank s = false) :
    Calls Try.prog 31 #[.pointer (some ⟨b, 0, none⟩), S s, .int .i64 n] w (LnP Z b st s n w) := by
  have HI := Lib.hid (Tk.LnI.start (n := n) (s := s) h hsim h8)
  have HOL := Lib.hid hol
  have HWL := Lib.hid hwl
  clear h hsim h8 hol hwl
  subst h0
  have HBL := Lib.hid hbl
  clear hbl
  refine (callsIn_wide (n := 0)).1 ?_
  refine callsIn_of_wp Try.func31 rfl trivial ?_ rfl
  simp only [Try.ntmps31, List.size_toArray, List.length_cons, List.length_nil, Nat.reduceAdd, Nat.reduceSub, Array.replicate_succ, Array.replicate_zero, List.push_toArray, List.append_toArray, List.nil_append, List.cons_append]
  gi_wp2_with fail
  gi_loopw [8] (fun i wr => i = .int .i64 0 ∧ w = wr) (fun _ _ => 0)
  case atStart => exact ⟨rfl, rfl⟩
  case round =>
    obtain ⟨rfl, rfl⟩ := hrel
    have hF := HI.out.lin.flush n
    have HSP := Lib.hid (show Tk.read [] (st.begin []) n = .ok (Tk.flushed x (st.begin []) n) by
      have hpr := HI.out.spec
      rw [List.drop_nil, Tk.pend_stop _ _ (.inl rfl), Tk.read_nil] at hpr
      exact hpr.symm)
    have hFl := Tk.Lx.flush_len x n
    have hxw := HI.out.words
    have hxo := HI.out.out
    have hxw' : (x.flush false n).words.length ≤ 1000000 := by rw [hFl.1]; have := HWL.out; omega
    have hxo' : (x.flush false n).out.length ≤ 1000000 := by rw [hFl.2.1, hxo]; have := HOL.out; omega
    have hxw2 : x.words.length ≤ 1000000 := by have := HWL.out; split at hxw <;> omega
    have HXW := Lib.hid hxw'
    have HXO := Lib.hid hxo'
    have HXW2 := Lib.hid hxw2
    have HF := Lib.hid hF
    clear hF hFl hxw hxo hxw' hxo' hxw2
    gi_wp2_with fail
    refine (callsIn_wide.2 (rflush_any Z b x false n _ HI.out.rd HXW2.out)).mono ?_
    rintro e w2 ⟨rfl, hr2, hk2⟩
    gi_wp2_with fail
    refine (callsIn_wide.2 (rend_any Z b _ _ hr2 HXO.out HXW.out)).mono ?_
    rintro e w3 ⟨rfl, hr3, hk3⟩
    gi_wp2_with fail
    go_ret
    exact LnP.ok _ _ HSP.out (hk2.trans hk3) hr3 (HF.out.1.fin HF.out.2.1)
end Go.Proofs.Yticljagcigiejaa
