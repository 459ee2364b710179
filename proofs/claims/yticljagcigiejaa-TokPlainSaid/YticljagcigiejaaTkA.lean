/- Words in quotes, words without; a text cut at its first line's end. -/
import Derived.Test.YticljagcigiejaaTkSpec
namespace Go.Proofs.Yticljagcigiejaa
open Go.RowKit Go.Shelf
set_option maxRecDepth 100000

theorem tk_bne {a b : UInt8} {n : Int} (hn : n = b.toNat) (h : a ≠ b) : ((a.toNat : Int) == n) = false ∧ ((a.toNat : Int) != n) = true := by
  have : (a.toNat : Int) ≠ n := by rw [hn]; intro e; apply h; apply UInt8.toNat_inj.1; exact_mod_cast e
  exact ⟨by simpa using this, by simpa using this⟩
theorem tk_beq {a b : UInt8} {n : Int} (hn : n = b.toNat) (h : a = b) : ((a.toNat : Int) == n) = true ∧ ((a.toNat : Int) != n) = false := by
  subst h; subst hn; simp

namespace Tk
theorem quo_end (r : List UInt8) : quo (34 :: r) = some [] := by rw [quo.eq_def]; simp
theorem quo_lone : quo [92] = none := by rw [quo.eq_def]; simp
theorem quo_two (d : UInt8) (r : List UInt8) : quo (92 :: d :: r) = (quo r).map fun t => 92 :: d :: t := by rw [quo.eq_def]; simp
theorem quo_plain {c : UInt8} (r : List UInt8) (h1 : c ≠ 34) (h2 : c ≠ 92) : quo (c :: r) = (quo r).map (c :: ·) := by rw [quo.eq_def]; simp [h1, h2]
theorem bare_end {c : UInt8} (r : List UInt8) (h : sep c = true) : bare (c :: r) = some [] := by rw [bare.eq_def]; simp [h]
theorem bare_lone : bare [92] = none := by rw [bare.eq_def]; simp [sep]
theorem bare_two (d : UInt8) (r : List UInt8) : bare (92 :: d :: r) = (bare r).map fun t => 92 :: d :: t := by rw [bare.eq_def]; simp [sep]
theorem bare_plain {c : UInt8} (r : List UInt8) (h1 : sep c = false) (h2 : c ≠ 92) : bare (c :: r) = (bare r).map (c :: ·) := by rw [bare.eq_def]; simp [h1, h2]
structure QAt (s : List UInt8) (k : Nat) : Prop where
  pos : 1 ≤ k
  le : k ≤ s.length + 1
  eqn : k ≤ s.length → quo (s.drop 1) = (quo (s.drop k)).map ((s.drop 1).take (k - 1) ++ ·)
  past : k = s.length + 1 → quo (s.drop 1) = none
theorem take_next {s : List UInt8} {k : Nat} (h1 : 1 ≤ k) (h : k < s.length) : (s.drop 1).take (k + 1 - 1) = (s.drop 1).take (k - 1) ++ [s[k]] := by
  obtain ⟨j, rfl⟩ : ∃ j, k = j + 1 := ⟨k - 1, by omega⟩
  rw [show j + 1 + 1 - 1 = j + 1 by omega, show j + 1 - 1 = j by omega, List.take_succ_eq_append_getElem (by simp; omega)]
  simp [Nat.add_comm]
theorem QAt.start {s : List UInt8} (h : 1 ≤ s.length) : QAt s 1 := ⟨by omega, by omega, fun _ => by simp, fun e => by omega⟩
theorem QAt.plain {s : List UInt8} {k : Nat} (h : QAt s k) (hk : k < s.length) (h1 : s[k] ≠ 34) (h2 : s[k] ≠ 92) : QAt s (k + 1) := by
  refine ⟨by omega, by omega, fun _ => ?_, fun e => by omega⟩
  rw [h.eqn (by omega), List.drop_eq_getElem_cons hk, quo_plain _ h1 h2, take_next h.pos hk]
  cases quo (s.drop (k + 1)) <;> simp
theorem QAt.stroke {s : List UInt8} {k : Nat} (h : QAt s k) (hk : k < s.length) (h2 : s[k] = 92) : QAt s (k + 2) := by
  by_cases hk1 : k + 1 < s.length
  · refine ⟨by omega, by omega, fun _ => ?_, fun e => by omega⟩
    have t1 := take_next (s := s) (k := k) h.pos hk
    have t2 := take_next (s := s) (k := k + 1) (by omega) hk1
    rw [h.eqn (by omega), List.drop_eq_getElem_cons hk, List.drop_eq_getElem_cons hk1, show k + 2 - 1 = k + 1 + 1 - 1 by omega, t2, t1, h2, quo_two]
    cases quo (s.drop (k + 1 + 1)) <;> simp
  · refine ⟨by omega, by omega, fun e => by omega, fun _ => ?_⟩
    rw [h.eqn (by omega), List.drop_eq_getElem_cons hk, List.drop_of_length_le (i := k + 1) (by omega), h2, quo_lone]; rfl
theorem QAt.done {s : List UInt8} {k : Nat} (h : QAt s k) (hk : k < s.length) (h1 : s[k] = 34) : quo (s.drop 1) = some ((s.drop 1).take (k - 1)) := by
  rw [h.eqn (by omega), List.drop_eq_getElem_cons hk, h1, quo_end]; simp
theorem QAt.none {s : List UInt8} {k : Nat} (h : QAt s k) (hk : ¬ k < s.length) : quo (s.drop 1) = none := by
  by_cases hk1 : k = s.length + 1
  · exact h.past hk1
  · have := h.le
    rw [h.eqn (by omega), List.drop_of_length_le (i := k) (by omega)]; simp [quo]
structure BAt (s : List UInt8) (k : Nat) : Prop where
  le : k ≤ s.length
  eqn : bare s = (bare (s.drop k)).map (s.take k ++ ·)
theorem BAt.start (s : List UInt8) : BAt s 0 := ⟨by omega, by simp⟩
theorem BAt.plain {s : List UInt8} {k : Nat} (h : BAt s k) (hk : k < s.length) (h1 : sep s[k] = false) (h2 : s[k] ≠ 92) : BAt s (k + 1) := by
  refine ⟨by omega, ?_⟩
  rw [h.eqn, List.drop_eq_getElem_cons hk, bare_plain _ h1 h2, List.take_succ_eq_append_getElem hk]
  cases bare (s.drop (k + 1)) <;> simp only [Option.map_none, Option.map_some, List.append_assoc, List.cons_append, List.nil_append]
theorem BAt.stroke {s : List UInt8} {k : Nat} (h : BAt s k) (hk : k + 1 < s.length) (h2 : s[k] = 92) : BAt s (k + 2) := by
  refine ⟨by omega, ?_⟩
  rw [h.eqn, List.drop_eq_getElem_cons (i := k) (by omega), List.drop_eq_getElem_cons hk, List.take_succ_eq_append_getElem (i := k + 1) hk, List.take_succ_eq_append_getElem (i := k) (by omega), h2, bare_two]
  cases bare (s.drop (k + 1 + 1)) <;> simp
theorem BAt.fail {s : List UInt8} {k : Nat} (h : BAt s k) (hk : k + 1 = s.length) (h2 : s[k]'(by omega) = 92) : bare s = none := by
  rw [h.eqn, List.drop_eq_getElem_cons (i := k) (by omega), List.drop_of_length_le (i := k + 1) (by omega), h2, bare_lone]; rfl
theorem BAt.done {s : List UInt8} {k : Nat} (h : BAt s k) (hk : ∀ h : k < s.length, sep s[k] = true) : bare s = some (s.take k) := by
  rw [h.eqn]
  by_cases hk1 : k < s.length
  · rw [List.drop_eq_getElem_cons hk1, bare_end _ (hk hk1)]; simp
  · rw [List.drop_of_length_le (by omega)]; simp [bare]
theorem idx_sep (c : UInt8) : (0 ≤ Lib.indexByte [32, 9, 59, 40, 41, 34] c) ↔ sep c = true := by
  have h : ∀ n : Fin 256, decide (0 ≤ Lib.indexByte [32, 9, 59, 40, 41, 34] (UInt8.ofFin n)) = decide (sep (UInt8.ofFin n) = true) := by decide +kernel
  exact decide_eq_decide.1 (h c.toFin)
def quoR (s : List UInt8) : List UInt8 × Int × Int := match quo (s.drop 1) with
  | none => ([], 0, 2)
  | some t => (t, (t.length : Int) + 2, 0)
def bareR (s : List UInt8) : List UInt8 × Int × Int := match bare s with
  | none => ([], 0, 2)
  | some t => (t, (t.length : Int), 0)
end Tk

theorem idx_seps (c : UInt8) (w : World) :
    Calls Try.prog 76 #[S [32, 9, 59, 40, 41, 34], .int .u8 c.toNat] w fun e w' => ∃ n : Int, e = .returned (.int .i64 n) ∧ (0 ≤ n ↔ Tk.sep c = true) ∧ w = w' := by
  refine (Try.strings_IndexByte _ _ _).mono ?_
  rintro e w' ⟨rfl, rfl⟩
  refine ⟨_, rfl, ?_, rfl⟩
  rw [← Tk.idx_sep c]
  simp

def TkTup (p : List UInt8 × Int × Int) (w : World) (e : Ending) (w' : World) : Prop := e = .returned (.tuple #[S p.1, .int .i64 p.2.1, .int .i64 p.2.2]) ∧ w = w'
theorem TkTup.mk {p : List UInt8 × Int × Int} {w : World} (t : List UInt8) (n z : Int) (h : p = (t, n, z)) {a b c : Value} (ha : a = S t) (hb : b = .int .i64 n) (hc : c = .int .i64 z) : TkTup p w (.returned (.tuple #[a, b, c])) w := by
  subst h ha hb hc; exact ⟨rfl, rfl⟩
theorem tk_tail (s : List UInt8) : s.tail = s.drop 1 := by simp
set_option maxHeartbeats 2000000 in
theorem quoted_any (s : List UInt8) (w : World) (hs : s.length ≤ 1000000) (hs1 : 1 ≤ s.length) :
    Calls Try.prog 53 #[S s] w (TkTup (Tk.quoR s) w) := by
  have hq := Tk.QAt.start hs1
  go_enter Try.func53, Try.ntmps53
  go_wp2
  go_loopw [5] (fun i wr => ∃ k : Nat, Tk.QAt s k ∧ i = .int .i64 k ∧ w = wr) (fun i _ => s.length + 1 - (intOf i).toNat)
  case atStart => exact ⟨1, hq, rfl, rfl⟩
  case round =>
    obtain ⟨k, hk, rfl, rfl⟩ := hrel
    have k1 := hk.pos
    have k2 := hk.le
    have HK := Lib.hid hk
    clear hk hq
    by_cases hlt : k < s.length
    · have hlt' : (k : Int) < s.length := by omega
      by_cases h34 : s[k] = 34
      · obtain ⟨e1, e2⟩ := tk_beq (n := 34) rfl h34
        have HR := Lib.hid (HK.out.done hlt h34)
        clear h34
        go_wp2_with fail
        go_ret3
        exact TkTup.mk ((s.drop 1).take (k - 1)) (k + 1) 0 (by unfold Tk.quoR; rw [HR.out]; simp; omega) (by rw [← tk_tail]; rfl) rfl rfl
      · obtain ⟨e1, e2⟩ := tk_bne (n := 34) (b := 34) rfl h34
        by_cases h92 : s[k] = 92
        · obtain ⟨f1, f2⟩ := tk_beq (n := 92) rfl h92
          have HR := Lib.hid (HK.out.stroke hlt h92)
          clear h34 h92
          go_wp2_with fail
          exact ⟨⟨k + 2, HR.out, by go_num, trivial⟩, by simp [intOf]; omega⟩
        · obtain ⟨f1, f2⟩ := tk_bne (n := 92) (b := 92) rfl h92
          have HR := Lib.hid (HK.out.plain hlt h34 h92)
          clear h34 h92
          go_wp2_with fail
          exact ⟨⟨k + 1, HR.out, by go_num, trivial⟩, by simp [intOf]; omega⟩
    · have hge : (s.length : Int) ≤ k := by omega
      have HR := Lib.hid (HK.out.none hlt)
      clear hlt
      go_wp2_with fail
      go_ret3
      exact TkTup.mk [] 0 2 (by unfold Tk.quoR; rw [HR.out]) rfl rfl rfl
set_option maxHeartbeats 2000000 in
theorem bare_any (s : List UInt8) (w : World) (hs : s.length ≤ 1000000) :
    Calls Try.prog 54 #[S s] w (TkTup (Tk.bareR s) w) := by
  have hq := Tk.BAt.start s
  go_enter Try.func54, Try.ntmps54
  go_wp2
  go_loopw [5] (fun i wr => ∃ k : Nat, Tk.BAt s k ∧ i = .int .i64 k ∧ w = wr) (fun i _ => s.length + 1 - (intOf i).toNat)
  case atStart => exact ⟨0, hq, rfl, rfl⟩
  case round =>
    obtain ⟨k, hk, rfl, rfl⟩ := hrel
    have k2 := hk.le
    have HK := Lib.hid hk
    clear hk hq
    by_cases hlt : k < s.length
    · have hlt' : (k : Int) < s.length := by omega
      have hc255 : ((s[k].toNat : Nat) : Int) ≤ 255 := by have := s[k].toNat_lt; omega
      rcases hsp : Tk.sep s[k] with _ | _
      · by_cases h92 : s[k] = 92
        · obtain ⟨f1, f2⟩ := tk_beq (n := 92) rfl h92
          have HSP := Lib.hid hsp
          have H92 := Lib.hid h92
          clear h92 hsp
          by_cases hk1 : k + 1 < s.length
          · have HR := Lib.hid (HK.out.stroke hk1 H92.out)
            have hk1' : (((k : Int) + 1 == s.length) = false) := by rw [beq_eq_false_iff_ne]; omega
            go_wp2_with (go_at_call 76; refine (idx_seps s[k] _).mono ?_; rintro e w1 ⟨n, rfl, hn, rfl⟩; have hn' : n < 0 := (by have := HSP.out; rcases Int.lt_or_le n 0 with h | h; exact h; rw [hn.1 h] at this; cases this); clear hn)
            exact ⟨⟨k + 2, HR.out, by go_num, trivial⟩, by simp [intOf]; omega⟩
          · have HR := Lib.hid (HK.out.fail (by omega) H92.out)
            have hk1' : (((k : Int) + 1 == s.length) = true) := by rw [beq_iff_eq]; omega
            clear hk1
            go_wp2_with (go_at_call 76; refine (idx_seps s[k] _).mono ?_; rintro e w1 ⟨n, rfl, hn, rfl⟩; have hn' : n < 0 := (by have := HSP.out; rcases Int.lt_or_le n 0 with h | h; exact h; rw [hn.1 h] at this; cases this); clear hn)
            go_ret3
            exact TkTup.mk [] 0 2 (by unfold Tk.bareR; rw [HR.out]) rfl rfl rfl
        · obtain ⟨f1, f2⟩ := tk_bne (n := 92) (b := 92) rfl h92
          have HR := Lib.hid (HK.out.plain hlt hsp h92)
          have HSP := Lib.hid hsp
          clear h92 hsp
          go_wp2_with (go_at_call 76; refine (idx_seps s[k] _).mono ?_; rintro e w1 ⟨n, rfl, hn, rfl⟩; have hn' : n < 0 := (by have := HSP.out; rcases Int.lt_or_le n 0 with h | h; exact h; rw [hn.1 h] at this; cases this); clear hn)
          exact ⟨⟨k + 1, HR.out, by go_num, trivial⟩, by simp [intOf]; omega⟩
      · have HR := Lib.hid (HK.out.done (fun _ => hsp))
        have HSP := Lib.hid hsp
        clear hsp
        go_wp2_with (go_at_call 76; refine (idx_seps s[k] _).mono ?_; rintro e w1 ⟨n, rfl, hn, rfl⟩; have hn' : 0 ≤ n := hn.2 HSP.out; clear hn)
        go_ret3
        exact TkTup.mk (s.take k) k 0 (by unfold Tk.bareR; rw [HR.out]; simp; omega) rfl rfl rfl
    · have hge : (s.length : Int) ≤ k := by omega
      have hks : k = s.length := by omega
      have HR := Lib.hid (HK.out.done (fun h => absurd h hlt))
      clear hlt hks
      go_wp2_with fail
      go_ret3
      exact TkTup.mk (s.take k) k 0 (by unfold Tk.bareR; rw [HR.out]; simp; omega) rfl rfl rfl
end Go.Proofs.Yticljagcigiejaa
