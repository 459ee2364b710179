/- The reference's lexer reads a word in quotes. -/
import Derived.Test.YticljagcigiejaaTkJ
namespace Go.Proofs.Yticljagcigiejaa
open Go.RowKit Go.Shelf
set_option maxRecDepth 100000

namespace Tk
/-- in a quoted word: at k, behind the octets tk -/
structure QuAt (s : List UInt8) (at0 : Nat) (k : Nat) (tk : List UInt8) : Prop where
  lo : at0 + 1 ≤ k
  le : k ≤ s.length
  len : tk.length + (at0 + 1) = k
  eqn : quo (s.drop (at0 + 1)) = (quo (s.drop k)).map (tk ++ ·)
theorem QuAt.start {s : List UInt8} {at0 : Nat} (h : at0 < s.length) : QuAt s at0 (at0 + 1) [] := ⟨Nat.le_refl _, h, by simp, by simp⟩
theorem QuAt.plain {s at0 k tk} (h : QuAt s at0 k tk) (hk : k < s.length) (h1 : s[k] ≠ 34) (h2 : s[k] ≠ 92) : QuAt s at0 (k + 1) (tk ++ [s[k]]) := by
  refine ⟨by have := h.lo; omega, hk, by have := h.len; simp; omega, ?_⟩
  rw [h.eqn, List.drop_eq_getElem_cons hk, quo_plain _ h1 h2]
  cases quo (s.drop (k + 1)) <;> simp
theorem QuAt.stroke {s at0 k tk} (h : QuAt s at0 k tk) (hk : k + 1 < s.length) (h2 : s[k] = 92) : QuAt s at0 (k + 2) (tk ++ [s[k]] ++ [s[k + 1]]) := by
  refine ⟨by have := h.lo; omega, hk, by have := h.len; simp; omega, ?_⟩
  rw [h.eqn, List.drop_eq_getElem_cons (i := k) (by omega), List.drop_eq_getElem_cons hk, h2, quo_two]
  cases quo (s.drop (k + 1 + 1)) <;> simp
theorem QuAt.lone {s at0 k tk} (h : QuAt s at0 k tk) (hk : k + 1 = s.length) (h2 : s[k]'(by omega) = 92) : quo (s.drop (at0 + 1)) = none := by
  rw [h.eqn, List.drop_eq_getElem_cons (i := k) (by omega), List.drop_of_length_le (i := k + 1) (by omega), h2, quo_lone]; rfl
theorem QuAt.done {s at0 k tk} (h : QuAt s at0 k tk) (hk : k < s.length) (h2 : s[k] = 34) : quo (s.drop (at0 + 1)) = some tk := by
  rw [h.eqn, List.drop_eq_getElem_cons hk, h2, quo_end]; simp
theorem QuAt.past {s at0 k tk} (h : QuAt s at0 k tk) (hk : ¬ k < s.length) : quo (s.drop (at0 + 1)) = none := by
  rw [h.eqn, List.drop_of_length_le (by omega)]; simp [quo]
end Tk
def QuP (Z : Nat → Prop) (b : Nat) (x : Tk.Lx) (s : List UInt8) (at0 n : Nat) (w : World) (e : Ending) (w' : World) : Prop :=
  Keep Z w w' ∧ match Tk.quo (s.drop (at0 + 1)) with
  | none => e = .returned (.int .i64 (-1))
  | some t => e = .returned (.int .i64 ((at0 : Int) + 1 + t.length + 1)) ∧ Tk.LxRd Z b (({ x with wd := x.wd ++ t } : Tk.Lx).flush true n) w'

set_option maxHeartbeats 4000000 in
theorem rquote_any (Z : Nat → Prop) (b : Nat) (x : Tk.Lx) (s : List UInt8) (at0 n : Nat) (w : World) (h : Tk.LxRd Z b x w) (hs : s.length ≤ 1000000) (ha : at0 < s.length) (hwl : x.words.length ≤ 1000000) (hwd : x.wd.length ≤ 1000000) :
    Calls Try.prog 58 #[.pointer (some ⟨b, 0, none⟩), S s, .int .i64 at0, .int .i64 n] w (QuP Z b x s at0 n w) := by
  have HH := Lib.hid h
  have HQ := Lib.hid (Tk.QuAt.start ha)
  have ha' : (at0 : Int) < s.length := by omega
  clear h
  refine (callsIn_wide (n := 0)).1 ?_
  refine callsIn_of_wp Try.func58 rfl trivial ?_ rfl
  simp only [Try.ntmps58, List.size_toArray, List.length_cons, List.length_nil, Nat.reduceAdd, Nat.reduceSub, Array.replicate_succ, Array.replicate_zero, List.push_toArray, List.append_toArray, List.nil_append, List.cons_append]
  gi_wp2_with fail
  gi_loopw [9] (fun i wr => ∃ (k : Nat) (tk : List UInt8), i = .int .i64 k ∧ Tk.QuAt s at0 k tk ∧ Tk.LxRd Z b { x with wd := x.wd ++ tk } wr ∧ Keep Z w wr) (fun i _ => s.length - (intOf i).toNat)
  case atStart => exact ⟨at0 + 1, [], by go_num, HQ.out, by simpa using HH.out, Keep.refl _ _⟩
  case round =>
    obtain ⟨k, tk, rfl, hq, hr, hk⟩ := hrel
    have HR := Lib.hid hr
    have HK := Lib.hid hk
    have HQK := Lib.hid hq
    have kle := hq.le
    have klo := hq.lo
    have HLEN := Lib.hid hq.len
    obtain ⟨wd0, hwd0⟩ : ∃ wd0, x.wd ++ tk = wd0 := ⟨_, rfl⟩
    have hwd0l : wd0.length ≤ 2000000 := by rw [← hwd0, List.length_append]; have := hq.len; omega
    rw [hwd0] at HR
    have HWD0 := Lib.hid hwd0
    clear hwd0
    have htk : tk.length ≤ 1000000 := by have := hq.len; omega
    clear hr hk hq
    by_cases hlt : k < s.length
    · have hlt' : (k : Int) < s.length := by omega
      by_cases h34 : s[k] = 34
      · obtain ⟨e1, e2⟩ := tk_beq (n := 34) rfl h34
        have HD := Lib.hid (HQK.out.done hlt h34)
        clear h34
        gi_wp2_with fail
        refine (callsIn_wide.2 (rflush_any Z b _ true n _ HR.out hwl)).mono ?_
        rintro e w2 ⟨rfl, hr2, hk2⟩
        gi_wp2_with fail
        go_ret
        refine ⟨HK.out.trans hk2, ?_⟩
        rw [HD.out]
        rw [← HWD0.out] at hr2
        have := HLEN.out
        exact ⟨by show Ending.returned (.int .i64 ((k : Int) + 1)) = _; congr 2; omega, hr2⟩
      · obtain ⟨e1, e2⟩ := tk_bne (n := 34) (b := 34) rfl h34
        by_cases h92 : s[k] = 92
        · obtain ⟨f1, f2⟩ := tk_beq (n := 92) rfl h92
          have H92 := Lib.hid h92
          clear h34 h92
          by_cases hk1 : k + 1 < s.length
          · have hk1' : (k : Int) + 1 < s.length := by omega
            have HT := Lib.hid (HQK.out.stroke hk1 H92.out)
            have T1 := Lib.hid (take_one s k hlt)
            have T2 := Lib.hid (take_one s (k + 1) hk1)
            have hw1 : IntKind.i64.wrap ((k : Int) + 1) = k + 1 := IntWalk.i64_in _ (by omega)
            have hk01 : (k : Int) ≤ (k : Int) + 1 := by omega
            have hk02 : (k : Int) + 1 ≤ (k : Int) + 1 + 1 := by omega
            have hw2 : IntKind.i64.wrap ((k : Int) + 1 + 1) = k + 1 + 1 := IntWalk.i64_in _ (by omega)
            gi_wp2_with fail
            refine drawnH [4] (fun w' => w'.cell? ⟨b, 7, none⟩ = some (S ({ x with wd := wd0 }).wd)) 14 rfl (by kernel_rfl) ?_
            intro w' hw'
            obtain ⟨HRd, HKd⟩ : Hid (Tk.LxRd Z b ({ x with wd := wd0 }) w') ∧ Hid (Keep Z w w') := by subst hw'; exact ⟨Lib.hid HR.out.drew, Lib.hid HK.out.drew⟩
            clear hw'
            obtain ⟨vo1, o1, cap1, hcell1, hz1, hb1, _⟩ := HRd.out.cells
            have hS : w'.cell? ⟨b, 7, none⟩ = some (S ({ x with wd := wd0 }).wd) := hcell1 7 _ rfl
            have c71 := hcell1 7 _ rfl
            clear hcell1
            refine takeP 0 (v := ?qav0) (fun _ => trivial) (by rfl) (by kernel_rfl) (.inl ⟨by kernel_rfl, fun w1 _ => ?qay0⟩) ?_
            case qay0 => (go_simp; try first | rfl | (rw [if_pos (by omega)]) | (rw [if_neg (by omega)]) | (rw [if_neg (by simp; omega)]) | (split <;> first | (exfalso; omega) | rfl))
            refine takeP 1 (v := ?qav1) (fun _ => trivial) (by rfl) (by kernel_rfl) (.inl ⟨by kernel_rfl, fun w1 _ => ?qay1⟩) ?_
            case qay1 => (go_simp; try first | rfl | (rw [if_pos (by omega)]) | (rw [if_neg (by omega)]) | (rw [if_neg (by simp; omega)]) | (split <;> first | (exfalso; omega) | rfl))
            refine takeP 2 (v := ?qav2) (fun _ => trivial) (by rfl) (by kernel_rfl) (.inl ⟨by kernel_rfl, fun w1 _ => ?qay2⟩) ?_
            case qay2 => (go_simp; try first | rfl | (rw [if_pos (by omega)]) | (rw [if_neg (by omega)]) | (rw [if_neg (by simp; omega)]) | (split <;> first | (exfalso; omega) | rfl))
            refine takeP 3 (v := ?qav3) (fun _ => trivial) (by rfl) (by kernel_rfl) (.inl ⟨by kernel_rfl, fun w1 _ => ?qay3⟩) ?_
            case qay3 => (go_simp; try first | rfl | (rw [if_pos (by omega)]) | (rw [if_neg (by omega)]) | (rw [if_neg (by simp; omega)]) | (split <;> first | (exfalso; omega) | rfl))
            refine takeP 5 (v := ?qav5) (fun _ => trivial) (by rfl) (by kernel_rfl) (.inl ⟨by kernel_rfl, fun w1 _ => ?qay5⟩) ?_
            case qay5 => (go_simp; try first | rfl | (rw [if_pos (by omega)]) | (rw [if_neg (by omega)]) | (rw [if_neg (by simp; omega)]) | (split <;> first | (exfalso; omega) | rfl))
            refine takeP 6 (v := ?qav6) (fun _ => trivial) (by rfl) (by kernel_rfl) (.inl ⟨by kernel_rfl, fun w1 _ => ?qay6⟩) ?_
            case qay6 => (go_simp; try first | rfl | (rw [if_pos (by omega)]) | (rw [if_neg (by omega)]) | (rw [if_neg (by simp; omega)]) | (split <;> first | (exfalso; omega) | rfl))
            refine takeP 7 (v := ?qav7) (fun _ => trivial) (by rfl) (by kernel_rfl) (.inl ⟨by kernel_rfl, fun w1 _ => ?qay7⟩) ?_
            case qay7 => (go_simp; try first | rfl | (rw [if_pos (by omega)]) | (rw [if_neg (by omega)]) | (rw [if_neg (by simp; omega)]) | (split <;> first | (exfalso; omega) | rfl))
            refine takeP 8 (v := ?qav8) (fun _ => trivial) (by rfl) (by kernel_rfl) (.inl ⟨by kernel_rfl, fun w1 _ => ?qay8⟩) ?_
            case qay8 => (go_simp; try first | rfl | (rw [if_pos (by omega)]) | (rw [if_neg (by omega)]) | (rw [if_neg (by simp; omega)]) | (split <;> first | (exfalso; omega) | rfl))
            refine takeP 9 (v := ?qav9) (fun _ => trivial) (by rfl) (by kernel_rfl) (.inl ⟨by kernel_rfl, fun w1 _ => ?qay9⟩) ?_
            case qay9 => (go_simp; try first | rfl | (rw [if_pos (by omega)]) | (rw [if_neg (by omega)]) | (rw [if_neg (by simp; omega)]) | (split <;> first | (exfalso; omega) | rfl))
            refine takeH 4 (v := ?qav4) (fun _ => trivial) (by rfl) (by kernel_rfl) hS (.inl ⟨by kernel_rfl, fun w1 a1 => ?qay4⟩) ?_
            case qay4 => (go_simp; try first | rfl | (rw [if_pos (by omega)]) | (rw [if_neg (by omega)]) | (rw [if_neg (by simp; omega)]) | (split <;> first | (exfalso; omega) | rfl))
            refine takeP 10 (v := ?qav10) (fun _ => trivial) (by rfl) (by kernel_rfl) (.inl ⟨by kernel_rfl, fun w1 _ => ?qay10⟩) ?_
            case qay10 => (go_simp; try first | rfl | (rw [if_pos (by omega)]) | (rw [if_neg (by omega)]) | (rw [if_neg (by simp; omega)]) | (split <;> first | (exfalso; omega) | rfl))
            refine takeP 11 (v := ?qav11) (fun _ => trivial) (by rfl) (by kernel_rfl) (.inl ⟨by kernel_rfl, fun w1 _ => ?qay11⟩) ?_
            case qay11 => (go_simp; try first | rfl | (rw [if_pos (by omega)]) | (rw [if_neg (by omega)]) | (rw [if_neg (by simp; omega)]) | (split <;> first | (exfalso; omega) | rfl))
            refine takeP 12 (v := ?qav12) (fun _ => trivial) (by rfl) (by kernel_rfl) (.inl ⟨by kernel_rfl, fun w1 _ => ?qay12⟩) ?_
            case qay12 => (go_simp; try first | rfl | (rw [if_pos (by omega)]) | (rw [if_neg (by omega)]) | (rw [if_neg (by simp; omega)]) | (split <;> first | (exfalso; omega) | rfl))
            refine oneH 13 (by rfl) (by kernel_rfl) (fun K hK => ?_)
            gi_wp2_with fail
            rw [append_S, T1.out]
            obtain ⟨W3, hW3, HR3, HK3⟩ : ∃ W, w'.setCell ⟨b, 7, none⟩ (S (wd0 ++ [s[k]])) = W ∧ Hid (Tk.LxRd Z b { ({ x with wd := wd0 }) with wd := wd0 ++ [s[k]] } W) ∧ Hid (Keep Z w W) := ⟨_, rfl, Lib.hid (HRd.out.setWd _), Lib.hid (HKd.out.setCell HRd.out.bz _)⟩
            rw [hW3]
            refine hK _ _ (fun h => absurd h (by decide)) ?_
            clear hK K hW3 hS c71 HRd HKd hz1 hb1
            refine doneH (by kernel_rfl) ?_
            gi_wp2_with fail
            clear HR HK
            obtain ⟨wd1, hwd1⟩ : ∃ wd1, wd0 ++ [s[k]] = wd1 := ⟨_, rfl⟩
            have hwd1l : wd1.length ≤ 2000001 := by rw [← hwd1]; simp; omega
            simp only [hwd1] at HR3
            have HWD1 := Lib.hid hwd1
            clear hwd1
            obtain ⟨k1, hk1e⟩ : ∃ k1 : Nat, k + 1 = k1 := ⟨_, rfl⟩
            have hk1i : (k : Int) + 1 = (k1 : Int) := by omega
            rw [hk1i]
            have T2' := Lib.hid (show (s.drop k1).take 1 = [s[k + 1]] by rw [← hk1e]; exact T2.out)
            have hw3 : IntKind.i64.wrap ((k1 : Int) + 1) = k1 + 1 := IntWalk.i64_in _ (by omega)
            have hk03 : (k1 : Int) ≤ (k1 : Int) + 1 := by omega
            have hk04 : (k1 : Int) < s.length := by omega
            have hk05 : k1 < s.length := by omega
            have HKE := Lib.hid hk1e
            clear hw1 hw2 hk01 hk02 hk1' hk1i hk1e T2
            gi_wp2_with fail
            refine drawnH [4] (fun w' => w'.cell? ⟨b, 7, none⟩ = some (S ({ x with wd := wd1 }).wd)) 14 rfl (by kernel_rfl) ?_
            intro w' hw'
            obtain ⟨HRd, HKd⟩ : Hid (Tk.LxRd Z b ({ x with wd := wd1 }) w') ∧ Hid (Keep Z w w') := by subst hw'; exact ⟨Lib.hid HR3.out.drew, Lib.hid HK3.out.drew⟩
            clear hw'
            obtain ⟨vo1, o1, cap1, hcell1, hz1, hb1, _⟩ := HRd.out.cells
            have hS : w'.cell? ⟨b, 7, none⟩ = some (S ({ x with wd := wd1 }).wd) := hcell1 7 _ rfl
            have c71 := hcell1 7 _ rfl
            clear hcell1
            refine takeP 0 (v := ?qbv0) (fun _ => trivial) (by rfl) (by kernel_rfl) (.inl ⟨by kernel_rfl, fun w1 _ => ?qby0⟩) ?_
            case qby0 => (go_simp; try first | rfl | (rw [if_pos (by omega)]) | (rw [if_neg (by omega)]) | (rw [if_neg (by simp; omega)]) | (split <;> first | (exfalso; omega) | rfl))
            refine takeP 1 (v := ?qbv1) (fun _ => trivial) (by rfl) (by kernel_rfl) (.inl ⟨by kernel_rfl, fun w1 _ => ?qby1⟩) ?_
            case qby1 => (go_simp; try first | rfl | (rw [if_pos (by omega)]) | (rw [if_neg (by omega)]) | (rw [if_neg (by simp; omega)]) | (split <;> first | (exfalso; omega) | rfl))
            refine takeP 2 (v := ?qbv2) (fun _ => trivial) (by rfl) (by kernel_rfl) (.inl ⟨by kernel_rfl, fun w1 _ => ?qby2⟩) ?_
            case qby2 => (go_simp; try first | rfl | (rw [if_pos (by omega)]) | (rw [if_neg (by omega)]) | (rw [if_neg (by simp; omega)]) | (split <;> first | (exfalso; omega) | rfl))
            refine takeP 3 (v := ?qbv3) (fun _ => trivial) (by rfl) (by kernel_rfl) (.inl ⟨by kernel_rfl, fun w1 _ => ?qby3⟩) ?_
            case qby3 => (go_simp; try first | rfl | (rw [if_pos (by omega)]) | (rw [if_neg (by omega)]) | (rw [if_neg (by simp; omega)]) | (split <;> first | (exfalso; omega) | rfl))
            refine takeP 5 (v := ?qbv5) (fun _ => trivial) (by rfl) (by kernel_rfl) (.inl ⟨by kernel_rfl, fun w1 _ => ?qby5⟩) ?_
            case qby5 => (go_simp; try first | rfl | (rw [if_pos (by omega)]) | (rw [if_neg (by omega)]) | (rw [if_neg (by simp; omega)]) | (split <;> first | (exfalso; omega) | rfl))
            refine takeP 6 (v := ?qbv6) (fun _ => trivial) (by rfl) (by kernel_rfl) (.inl ⟨by kernel_rfl, fun w1 _ => ?qby6⟩) ?_
            case qby6 => (go_simp; try first | rfl | (rw [if_pos (by omega)]) | (rw [if_neg (by omega)]) | (rw [if_neg (by simp; omega)]) | (split <;> first | (exfalso; omega) | rfl))
            refine takeP 7 (v := ?qbv7) (fun _ => trivial) (by rfl) (by kernel_rfl) (.inl ⟨by kernel_rfl, fun w1 _ => ?qby7⟩) ?_
            case qby7 => (go_simp; try first | rfl | (rw [if_pos (by omega)]) | (rw [if_neg (by omega)]) | (rw [if_neg (by simp; omega)]) | (split <;> first | (exfalso; omega) | rfl))
            refine takeP 8 (v := ?qbv8) (fun _ => trivial) (by rfl) (by kernel_rfl) (.inl ⟨by kernel_rfl, fun w1 _ => ?qby8⟩) ?_
            case qby8 => (go_simp; try first | rfl | (rw [if_pos (by omega)]) | (rw [if_neg (by omega)]) | (rw [if_neg (by simp; omega)]) | (split <;> first | (exfalso; omega) | rfl))
            refine takeP 9 (v := ?qbv9) (fun _ => trivial) (by rfl) (by kernel_rfl) (.inl ⟨by kernel_rfl, fun w1 _ => ?qby9⟩) ?_
            case qby9 => (go_simp; try first | rfl | (rw [if_pos (by omega)]) | (rw [if_neg (by omega)]) | (rw [if_neg (by simp; omega)]) | (split <;> first | (exfalso; omega) | rfl))
            refine takeH 4 (v := ?qbv4) (fun _ => trivial) (by rfl) (by kernel_rfl) hS (.inl ⟨by kernel_rfl, fun w1 a1 => ?qby4⟩) ?_
            case qby4 => (go_simp; try first | rfl | (rw [if_pos (by omega)]) | (rw [if_neg (by omega)]) | (rw [if_neg (by simp; omega)]) | (split <;> first | (exfalso; omega) | rfl))
            refine takeP 10 (v := ?qbv10) (fun _ => trivial) (by rfl) (by kernel_rfl) (.inl ⟨by kernel_rfl, fun w1 _ => ?qby10⟩) ?_
            case qby10 => (go_simp; try first | rfl | (rw [if_pos (by omega)]) | (rw [if_neg (by omega)]) | (rw [if_neg (by simp; omega)]) | (split <;> first | (exfalso; omega) | rfl))
            refine takeP 11 (v := ?qbv11) (fun _ => trivial) (by rfl) (by kernel_rfl) (.inl ⟨by kernel_rfl, fun w1 _ => ?qby11⟩) ?_
            case qby11 => (go_simp; try first | rfl | (rw [if_pos (by omega)]) | (rw [if_neg (by omega)]) | (rw [if_neg (by simp; omega)]) | (split <;> first | (exfalso; omega) | rfl))
            refine takeP 12 (v := ?qbv12) (fun _ => trivial) (by rfl) (by kernel_rfl) (.inl ⟨by kernel_rfl, fun w1 _ => ?qby12⟩) ?_
            case qby12 => (go_simp; try first | rfl | (rw [if_pos (by omega)]) | (rw [if_neg (by omega)]) | (rw [if_neg (by simp; omega)]) | (split <;> first | (exfalso; omega) | rfl))
            refine oneH 13 (by rfl) (by kernel_rfl) (fun K hK => ?_)
            gi_wp2_with fail
            rw [append_S, T2'.out]
            obtain ⟨W4, hW4, HR4, HK4⟩ : ∃ W, w'.setCell ⟨b, 7, none⟩ (S (wd1 ++ [s[k + 1]])) = W ∧ Hid (Tk.LxRd Z b { ({ x with wd := wd1 }) with wd := wd1 ++ [s[k + 1]] } W) ∧ Hid (Keep Z w W) := ⟨_, rfl, Lib.hid (HRd.out.setWd _), Lib.hid (HKd.out.setCell HRd.out.bz _)⟩
            rw [hW4]
            refine hK _ _ (fun h => absurd h (by decide)) ?_
            clear hK K hW4 hS c71 HRd HKd hz1 hb1
            refine doneH (by kernel_rfl) ?_
            gi_wp2_with fail
            have hke := HKE.out
            refine ⟨⟨k + 2, tk ++ [s[k]] ++ [s[k + 1]], by go_num, HT.out, ?_, HK4.out⟩, by simp [intOf]; omega⟩
            have := HR4.out
            rw [← HWD1.out, ← HWD0.out] at this
            simpa [List.append_assoc] using this
          · have hk1' : ¬ ((k : Int) + 1 < s.length) := by omega
            have HT := Lib.hid (HQK.out.lone (by omega) H92.out)
            clear hk1
            gi_wp2_with fail
            go_ret
            refine ⟨HK.out, ?_⟩
            rw [HT.out]; rfl
        · obtain ⟨f1, f2⟩ := tk_bne (n := 92) (b := 92) rfl h92
          have HT := Lib.hid (HQK.out.plain hlt h34 h92)
          have T1 := Lib.hid (take_one s k hlt)
          have hw1 : IntKind.i64.wrap ((k : Int) + 1) = k + 1 := IntWalk.i64_in _ (by omega)
          have hk01 : (k : Int) ≤ (k : Int) + 1 := by omega
          clear h34 h92
          gi_wp2_with fail
          refine drawnH [4] (fun w' => w'.cell? ⟨b, 7, none⟩ = some (S ({ x with wd := wd0 }).wd)) 14 rfl (by kernel_rfl) ?_
          intro w' hw'
          obtain ⟨HRd, HKd⟩ : Hid (Tk.LxRd Z b ({ x with wd := wd0 }) w') ∧ Hid (Keep Z w w') := by subst hw'; exact ⟨Lib.hid HR.out.drew, Lib.hid HK.out.drew⟩
          clear hw'
          obtain ⟨vo1, o1, cap1, hcell1, hz1, hb1, _⟩ := HRd.out.cells
          have hS : w'.cell? ⟨b, 7, none⟩ = some (S ({ x with wd := wd0 }).wd) := hcell1 7 _ rfl
          have c71 := hcell1 7 _ rfl
          clear hcell1
          refine takeP 0 (v := ?qcv0) (fun _ => trivial) (by rfl) (by kernel_rfl) (.inl ⟨by kernel_rfl, fun w1 _ => ?qcy0⟩) ?_
          case qcy0 => (go_simp; try first | rfl | (rw [if_pos (by omega)]) | (rw [if_neg (by omega)]) | (rw [if_neg (by simp; omega)]) | (split <;> first | (exfalso; omega) | rfl))
          refine takeP 1 (v := ?qcv1) (fun _ => trivial) (by rfl) (by kernel_rfl) (.inl ⟨by kernel_rfl, fun w1 _ => ?qcy1⟩) ?_
          case qcy1 => (go_simp; try first | rfl | (rw [if_pos (by omega)]) | (rw [if_neg (by omega)]) | (rw [if_neg (by simp; omega)]) | (split <;> first | (exfalso; omega) | rfl))
          refine takeP 2 (v := ?qcv2) (fun _ => trivial) (by rfl) (by kernel_rfl) (.inl ⟨by kernel_rfl, fun w1 _ => ?qcy2⟩) ?_
          case qcy2 => (go_simp; try first | rfl | (rw [if_pos (by omega)]) | (rw [if_neg (by omega)]) | (rw [if_neg (by simp; omega)]) | (split <;> first | (exfalso; omega) | rfl))
          refine takeP 3 (v := ?qcv3) (fun _ => trivial) (by rfl) (by kernel_rfl) (.inl ⟨by kernel_rfl, fun w1 _ => ?qcy3⟩) ?_
          case qcy3 => (go_simp; try first | rfl | (rw [if_pos (by omega)]) | (rw [if_neg (by omega)]) | (rw [if_neg (by simp; omega)]) | (split <;> first | (exfalso; omega) | rfl))
          refine takeP 5 (v := ?qcv5) (fun _ => trivial) (by rfl) (by kernel_rfl) (.inl ⟨by kernel_rfl, fun w1 _ => ?qcy5⟩) ?_
          case qcy5 => (go_simp; try first | rfl | (rw [if_pos (by omega)]) | (rw [if_neg (by omega)]) | (rw [if_neg (by simp; omega)]) | (split <;> first | (exfalso; omega) | rfl))
          refine takeP 6 (v := ?qcv6) (fun _ => trivial) (by rfl) (by kernel_rfl) (.inl ⟨by kernel_rfl, fun w1 _ => ?qcy6⟩) ?_
          case qcy6 => (go_simp; try first | rfl | (rw [if_pos (by omega)]) | (rw [if_neg (by omega)]) | (rw [if_neg (by simp; omega)]) | (split <;> first | (exfalso; omega) | rfl))
          refine takeP 7 (v := ?qcv7) (fun _ => trivial) (by rfl) (by kernel_rfl) (.inl ⟨by kernel_rfl, fun w1 _ => ?qcy7⟩) ?_
          case qcy7 => (go_simp; try first | rfl | (rw [if_pos (by omega)]) | (rw [if_neg (by omega)]) | (rw [if_neg (by simp; omega)]) | (split <;> first | (exfalso; omega) | rfl))
          refine takeP 8 (v := ?qcv8) (fun _ => trivial) (by rfl) (by kernel_rfl) (.inl ⟨by kernel_rfl, fun w1 _ => ?qcy8⟩) ?_
          case qcy8 => (go_simp; try first | rfl | (rw [if_pos (by omega)]) | (rw [if_neg (by omega)]) | (rw [if_neg (by simp; omega)]) | (split <;> first | (exfalso; omega) | rfl))
          refine takeP 9 (v := ?qcv9) (fun _ => trivial) (by rfl) (by kernel_rfl) (.inl ⟨by kernel_rfl, fun w1 _ => ?qcy9⟩) ?_
          case qcy9 => (go_simp; try first | rfl | (rw [if_pos (by omega)]) | (rw [if_neg (by omega)]) | (rw [if_neg (by simp; omega)]) | (split <;> first | (exfalso; omega) | rfl))
          refine takeH 4 (v := ?qcv4) (fun _ => trivial) (by rfl) (by kernel_rfl) hS (.inl ⟨by kernel_rfl, fun w1 a1 => ?qcy4⟩) ?_
          case qcy4 => (go_simp; try first | rfl | (rw [if_pos (by omega)]) | (rw [if_neg (by omega)]) | (rw [if_neg (by simp; omega)]) | (split <;> first | (exfalso; omega) | rfl))
          refine takeP 10 (v := ?qcv10) (fun _ => trivial) (by rfl) (by kernel_rfl) (.inl ⟨by kernel_rfl, fun w1 _ => ?qcy10⟩) ?_
          case qcy10 => (go_simp; try first | rfl | (rw [if_pos (by omega)]) | (rw [if_neg (by omega)]) | (rw [if_neg (by simp; omega)]) | (split <;> first | (exfalso; omega) | rfl))
          refine takeP 11 (v := ?qcv11) (fun _ => trivial) (by rfl) (by kernel_rfl) (.inl ⟨by kernel_rfl, fun w1 _ => ?qcy11⟩) ?_
          case qcy11 => (go_simp; try first | rfl | (rw [if_pos (by omega)]) | (rw [if_neg (by omega)]) | (rw [if_neg (by simp; omega)]) | (split <;> first | (exfalso; omega) | rfl))
          refine takeP 12 (v := ?qcv12) (fun _ => trivial) (by rfl) (by kernel_rfl) (.inl ⟨by kernel_rfl, fun w1 _ => ?qcy12⟩) ?_
          case qcy12 => (go_simp; try first | rfl | (rw [if_pos (by omega)]) | (rw [if_neg (by omega)]) | (rw [if_neg (by simp; omega)]) | (split <;> first | (exfalso; omega) | rfl))
          refine oneH 13 (by rfl) (by kernel_rfl) (fun K hK => ?_)
          gi_wp2_with fail
          rw [append_S, T1.out]
          obtain ⟨W3, hW3, HR3, HK3⟩ : ∃ W, w'.setCell ⟨b, 7, none⟩ (S (wd0 ++ [s[k]])) = W ∧ Hid (Tk.LxRd Z b { ({ x with wd := wd0 }) with wd := wd0 ++ [s[k]] } W) ∧ Hid (Keep Z w W) := ⟨_, rfl, Lib.hid (HRd.out.setWd _), Lib.hid (HKd.out.setCell HRd.out.bz _)⟩
          rw [hW3]
          refine hK _ _ (fun h => absurd h (by decide)) ?_
          clear hK K hW3 hS c71 HRd HKd hz1 hb1
          refine doneH (by kernel_rfl) ?_
          gi_wp2_with fail
          refine ⟨⟨k + 1, tk ++ [s[k]], by go_num, HT.out, ?_, HK3.out⟩, by simp [intOf]; omega⟩
          have := HR3.out
          rw [← HWD0.out] at this
          simpa [List.append_assoc] using this
    · have hge : (s.length : Int) ≤ k := by omega
      have HT := Lib.hid (HQK.out.past hlt)
      clear hlt
      gi_wp2_with fail
      go_ret
      refine ⟨HK.out, ?_⟩
      rw [HT.out]; rfl
end Go.Proofs.Yticljagcigiejaa
