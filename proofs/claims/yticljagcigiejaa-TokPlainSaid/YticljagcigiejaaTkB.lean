/- Lines of a text, one after the other. -/
import Derived.Test.YticljagcigiejaaTkA
namespace Go.Proofs.Yticljagcigiejaa
open Go.RowKit Go.Shelf
set_option maxRecDepth 100000

namespace Tk
theorem idx_line : ∀ (s : List UInt8), (has s = false ∧ Lib.indexByte s 10 = -1 ∧ ln s = s ∧ rest s = []) ∨ (has s = true ∧ ∃ k : Nat, Lib.indexByte s 10 = k ∧ k < s.length ∧ ln s = s.take k ∧ rest s = s.drop (k + 1))
  | [] => .inl ⟨rfl, rfl, rfl, rfl⟩
  | c :: r => by
    by_cases hc : c = 10
    · subst hc
      exact .inr ⟨by simp [has], 0, by simp [Lib.indexByte], by simp, by simp [ln], by simp [rest]⟩
    · have hc' : (c == 10) = false := by simpa using hc
      have hd : (c != 10) = true := by simpa using hc
      rcases idx_line r with ⟨h1, h2, h3, h4⟩ | ⟨h1, k, h2, h3, h4, h5⟩
      · refine .inl ⟨by unfold has at h1 ⊢; simp [hc', h1], by rw [Lib.indexByte, hc', h2]; simp, ?_, ?_⟩
        · unfold ln at h3 ⊢; rw [List.takeWhile_cons, hd, if_pos rfl, h3]
        · unfold rest at h4 ⊢; rw [List.dropWhile_cons, hd, if_pos rfl]; exact h4
      · refine .inr ⟨by unfold has at h1 ⊢; simp [h1], k + 1, ?_, by simp; omega, ?_, ?_⟩
        · rw [Lib.indexByte, hc', h2]
          have : ((k : Int) == -1) = false := by rw [beq_eq_false_iff_ne]; omega
          simp [this]
        · unfold ln at h4 ⊢; rw [List.takeWhile_cons, hd, if_pos rfl, h4]; simp
        · unfold rest at h5 ⊢; rw [List.dropWhile_cons, hd, if_pos rfl]; simpa using h5
theorem trim_cr (l : List UInt8) : Lib.trimSuffix l [13] = cr l := by
  unfold Lib.trimSuffix Lib.hasSuffix cr
  rcases List.eq_nil_or_concat l with rfl | ⟨r, c, rfl⟩
  · rfl
  · rw [List.concat_eq_append]
    by_cases hc : c = 13
    · subst hc
      simp
    · have h1 : ([13] : List UInt8).isSuffixOf (r ++ [c]) = false := by
        rw [Bool.eq_false_iff]
        intro h
        have h := List.isSuffixOf_iff_suffix.1 h
        obtain ⟨t, ht⟩ := h
        have := congrArg List.getLast? ht
        simp at this
        exact hc this.symm
      rw [h1]
      simp [hc]
end Tk

set_option maxHeartbeats 1000000 in
theorem lcut_any (s : List UInt8) (w : World) (hs : s.length ≤ 1000000) :
    Calls Try.prog 74 #[S s, S [10]] w fun e w' => e = .returned (.tuple #[S (Tk.ln s), S (Tk.rest s), .bool (Tk.has s)]) ∧ Below w.heap.size w w' := by
  rcases Tk.idx_line s with ⟨h1, h2, h3, h4⟩ | ⟨h1, k, h2, h3, h4, h5⟩
  · have H1 := Lib.hid h1
    have H2 := Lib.hid h2
    have H3 := Lib.hid h3
    have H4 := Lib.hid h4
    clear h1 h2 h3 h4
    refine (callsIn_wide (n := 0)).1 ?_
    refine callsIn_of_wp Try.func74 rfl trivial ?_ rfl
    simp only [Try.ntmps74, List.size_toArray, List.length_cons, List.length_nil, Nat.reduceAdd, Nat.reduceSub, Array.replicate_succ, Array.replicate_zero, List.push_toArray, List.append_toArray, List.nil_append, List.cons_append]
    gi_wp2_with (gi_at_call 90; refine (callsIn_wide.2 (Try.stringslite_Index_one ⟨s.toArray⟩ 10 _)).mono ?_; rintro e w1 ⟨rfl, rfl⟩; rw [show Lib.indexByte (ByteArray.mk s.toArray).data.toList 10 = -1 from H2.out])
    go_ret3
    exact ⟨by rw [H1.out, H3.out, H4.out]; rfl, Below.refl _ _⟩
  · have H1 := Lib.hid h1
    have H2 := Lib.hid h2
    have H4 := Lib.hid h4
    have H5 := Lib.hid h5
    have hk' : (k : Int) < s.length := by omega
    clear h1 h2 h4 h5
    refine (callsIn_wide (n := 0)).1 ?_
    refine callsIn_of_wp Try.func74 rfl trivial ?_ rfl
    simp only [Try.ntmps74, List.size_toArray, List.length_cons, List.length_nil, Nat.reduceAdd, Nat.reduceSub, Array.replicate_succ, Array.replicate_zero, List.push_toArray, List.append_toArray, List.nil_append, List.cons_append]
    gi_wp2_with (gi_at_call 90; refine (callsIn_wide.2 (Try.stringslite_Index_one ⟨s.toArray⟩ 10 _)).mono ?_; rintro e w1 ⟨rfl, rfl⟩; rw [show Lib.indexByte (ByteArray.mk s.toArray).data.toList 10 = (k : Int) from H2.out])
    refine drawnH [] (fun _ => True) 12 rfl (by kernel_rfl) ?_
    intro w' hw'
    have hb' : Below w1.heap.size w1 w' := by subst hw'; exact (Below.refl _ _).drew
    clear hw'
    have hw1 : IntKind.i64.wrap ((k : Int) + 1) = k + 1 := IntWalk.i64_in _ (by omega)
    refine takeP 0 (v := ?qv0) (fun _ => trivial) (by rfl) (by kernel_rfl) (.inl ⟨by kernel_rfl, fun w1 _ => ?qy0⟩) ?_
    case qy0 => (go_simp; try first | rfl | (rw [if_pos (by omega)]) | (rw [if_neg (by omega)]) | (rw [if_neg (by simp; omega)]) | (split <;> first | (exfalso; omega) | rfl))
    refine takeP 1 (v := ?qv1) (fun _ => trivial) (by rfl) (by kernel_rfl) (.inl ⟨by kernel_rfl, fun w1 _ => ?qy1⟩) ?_
    case qy1 => (go_simp; try first | rfl | (rw [if_pos (by omega)]) | (rw [if_neg (by omega)]) | (rw [if_neg (by simp; omega)]) | (split <;> first | (exfalso; omega) | rfl))
    refine takeP 2 (v := ?qv2) (fun _ => trivial) (by rfl) (by kernel_rfl) (.inl ⟨by kernel_rfl, fun w1 _ => ?qy2⟩) ?_
    case qy2 => (go_simp; try first | rfl | (rw [if_pos (by omega)]) | (rw [if_neg (by omega)]) | (rw [if_neg (by simp; omega)]) | (split <;> first | (exfalso; omega) | rfl))
    refine takeP 3 (v := ?qv3) (fun _ => trivial) (by rfl) (by kernel_rfl) (.inl ⟨by kernel_rfl, fun w1 _ => ?qy3⟩) ?_
    case qy3 => (go_simp; try first | rfl | (rw [if_pos (by omega)]) | (rw [if_neg (by omega)]) | (rw [if_neg (by simp; omega)]) | (split <;> first | (exfalso; omega) | rfl))
    refine takeP 4 (v := ?qv4) (fun _ => trivial) (by rfl) (by kernel_rfl) (.inl ⟨by kernel_rfl, fun w1 _ => ?qy4⟩) ?_
    case qy4 => (go_simp; try first | rfl | (rw [if_pos (by omega)]) | (rw [if_neg (by omega)]) | (rw [if_neg (by simp; omega)]) | (split <;> first | (exfalso; omega) | rfl))
    refine takeP 5 (v := ?qv5) (fun _ => trivial) (by rfl) (by kernel_rfl) (.inl ⟨by kernel_rfl, fun w1 _ => ?qy5⟩) ?_
    case qy5 => (go_simp; try first | rfl | (rw [if_pos (by omega)]) | (rw [if_neg (by omega)]) | (rw [if_neg (by simp; omega)]) | (split <;> first | (exfalso; omega) | rfl))
    refine takeP 6 (v := ?qv6) (fun _ => trivial) (by rfl) (by kernel_rfl) (.inl ⟨by kernel_rfl, fun w1 _ => ?qy6⟩) ?_
    case qy6 => (go_simp; try first | rfl | (rw [if_pos (by omega)]) | (rw [if_neg (by omega)]) | (rw [if_neg (by simp; omega)]) | (split <;> first | (exfalso; omega) | rfl))
    refine takeP 7 (v := ?qv7) (fun _ => trivial) (by rfl) (by kernel_rfl) (.inl ⟨by kernel_rfl, fun w1 _ => ?qy7⟩) ?_
    case qy7 => (go_simp; try first | rfl | (rw [if_pos (by omega)]) | (rw [if_neg (by omega)]) | (rw [if_neg (by simp; omega)]) | (split <;> first | (exfalso; omega) | rfl))
    refine takeP 8 (v := ?qv8) (fun _ => trivial) (by rfl) (by kernel_rfl) (.inl ⟨by kernel_rfl, fun w1 _ => ?qy8⟩) ?_
    case qy8 => (go_simp; try first | rfl | (rw [if_pos (by omega)]) | (rw [if_neg (by omega)]) | (rw [if_neg (by simp; omega)]) | (split <;> first | (exfalso; omega) | rfl))
    clear hw1
    refine oneH 9 (by rfl) (by kernel_rfl) (fun K hK => ?_)
    gi_wp2_with fail
    refine hK _ _ (fun h => absurd h (by decide)) ?_
    clear hK K
    refine oneH 10 (by rfl) (by kernel_rfl) (fun K hK => ?_)
    gi_wp2_with fail
    refine hK _ _ (fun h => absurd h (by decide)) ?_
    clear hK K
    refine oneH 11 (by rfl) (by kernel_rfl) (fun K hK => ?_)
    gi_wp2_with fail
    refine hK _ _ (fun h => absurd h (by decide)) ?_
    clear hK K
    refine doneH (by kernel_rfl) ?_
    gi_wp2_with fail
    go_ret3
    refine ⟨?_, hb'⟩
    rw [H1.out, H4.out, H5.out]
    rfl
set_option maxHeartbeats 1000000 in
theorem cut_any (s : List UInt8) (w : World) (hs : s.length ≤ 1000000) :
    Calls Try.prog 50 #[S s, S [10]] w fun e w' => e = .returned (.tuple #[S (Tk.ln s), S (Tk.rest s), .bool (Tk.has s)]) ∧ Below w.heap.size w w' := by
  go_enter Try.func50, Try.ntmps50
  go_wp2_with fail
  refine (lcut_any s _ hs).mono ?_
  rintro e w1 ⟨rfl, b1⟩
  go_wp2_with fail
  go_ret3
  exact ⟨rfl, b1⟩
theorem trim_any (l : List UInt8) (w : World) (hs : l.length ≤ 1000000) :
    Calls Try.prog 51 #[S l, S [13]] w fun e w' => e = .returned (S (Tk.cr l)) ∧ w = w' := by
  refine (Try.strings_TrimSuffix ⟨l.toArray⟩ ⟨#[13]⟩ w (by show l.length ≤ _; omega)).mono ?_
  rintro e w' ⟨rfl, rfl⟩
  refine ⟨?_, rfl⟩
  rw [show Lib.trimSuffix (ByteArray.mk l.toArray).data.toList (ByteArray.mk #[13]).data.toList = Tk.cr l from Tk.trim_cr l]

/-- what keeps all blocks that Z names, and whatever is no cells, and lays new ones behind -/
structure Keep (Z : Nat → Prop) (w w' : World) : Prop where
  os : w'.os = w.os
  tape : w'.tape = w.tape
  output : w'.output = w.output
  others : KeepsOthers w w'
  block : ∀ k, Z k → w'.heap[k]? = w.heap[k]?
theorem Keep.size {Z : Nat → Prop} {w w' : World} (h : Keep Z w w') : w.heap.size ≤ w'.heap.size := h.others.size
theorem Keep.refl (Z : Nat → Prop) (w : World) : Keep Z w w := ⟨rfl, rfl, rfl, KeepsOthers.refl _, fun _ _ => rfl⟩
theorem Keep.trans {Z : Nat → Prop} {a b c : World} (h : Keep Z a b) (k : Keep Z b c) : Keep Z a c :=
  ⟨k.os.trans h.os, k.tape.trans h.tape, k.output.trans h.output, h.others.trans k.others, fun i hi => (k.block i hi).trans (h.block i hi)⟩
theorem Keep.mono {Z Z' : Nat → Prop} {a b : World} (h : Keep Z a b) (hz : ∀ g, Z' g → Z g) : Keep Z' a b := ⟨h.os, h.tape, h.output, h.others, fun i hi => h.block i (hz i hi)⟩
theorem Keep.drew {Z : Nat → Prop} {a w : World} (h : Keep Z a w) : Keep Z a w.drew := ⟨h.os, h.tape, h.output, ⟨h.others.size, h.others.same⟩, h.block⟩
theorem Keep.of_below {Z : Nat → Prop} {a w : World} (h : Below a.heap.size a w) (hz : ∀ g, Z g → g < a.heap.size) : Keep Z a w := ⟨h.os, h.tape, h.output, below_keepsOthers h, fun i hi => h.block i (hz i hi)⟩
theorem Keep.below {Z : Nat → Prop} {a w : World} {B : Nat} (h : Keep Z a w) (hz : ∀ g, g < B → Z g) : Below B a w := ⟨h.os, h.tape, h.output, h.size, fun i hi => h.block i (hz i hi)⟩
theorem Keep.alloc {Z : Nat → Prop} {a w : World} (h : Keep Z a w) (hz : ∀ g, Z g → g < w.heap.size) (o : Obj) : Keep Z a (w.alloc o) :=
  h.trans ⟨rfl, rfl, rfl, KeepsOthers.alloc _ _, fun k hk => Below.heap_alloc _ _ _ (hz k hk)⟩
theorem Keep.setCell {Z : Nat → Prop} {a w : World} (h : Keep Z a w) {p : Addr} (hp : ¬ Z p.block) (u : Value) : Keep Z a (w.setCell p u) :=
  h.trans ⟨rfl, rfl, rfl, KeepsOthers.setCell _ _ _, fun k hk => Below.heap_setCell _ _ _ _ (fun e => hp (e ▸ hk))⟩
theorem Keep.grown {Z : Nat → Prop} {a w w' : World} {row : Option Nat} (h : Keep Z a w) (hg : w.grownBy w' row) (ho : KeepsOthers w w') (hz : ∀ g, Z g → g < w.heap.size) (hr : ∀ k, row = some k → ¬ Z k) : Keep Z a w' :=
  h.trans ⟨hg.os, hg.tape, hg.output, ho, fun k hk => hg.block k (hz k hk) (fun e => hr k e.symm hk)⟩

/-- what lines' iterator does to memory: it writes its own box alone -/
def lnSt (bs : Nat) (A B : World) : Prop := Keep (fun g => g ≠ bs ∧ g < A.heap.size) A B ∧ (∃ v, Box bs 9 v A) ∧ ∃ v, Box bs 9 v B
def lnKp (bs : Nat) (A B : World) : Prop := A.heap.size ≤ B.heap.size ∧ B.heap[bs]? = A.heap[bs]?
def lnY (p : List UInt8 × Nat) (_ : World) (v : Array Value) (p' : List UInt8 × Nat) : Prop := p.1 ≠ [] ∧ p.1.length + p.2 ≤ 1000001 ∧ v = #[.int .i64 p.2, S (Tk.line1 p.1)] ∧ p' = (Tk.rest p.1, p.2 + 1)
theorem lnSt.others {bs : Nat} {A B : World} (h : lnSt bs A B) : KeepsOthers A B := h.1.others

set_option maxHeartbeats 1000000 in
theorem lines_any (s : List UInt8) (w : World) :
    Calls Try.prog 28 #[S s] w fun e w' => e = .returned (.func (.func 49) #[] #[.pointer (some ⟨w.heap.size, 0, none⟩)]) ∧ w.alloc (.cells #[S s] 9) = w' := by
  go_enter Try.func28, Try.ntmps28
  go_wp2
  go_ret
  exact ⟨rfl, rfl⟩

set_option maxHeartbeats 2000000 in
theorem lines1_iter (bs : Nat) (s0 : List UInt8) (hs0 : s0.length ≤ 1000000) :
    Iter Try.prog 49 #[.pointer (some ⟨bs, 0, none⟩)] (Box bs 9 (S s0)) (lnSt bs) (lnKp bs) lnY (s0, 1) (fun p => p.1 = []) := by
  intro l J Jx W hpre hJ hJx hY h0
  refine callsIn_of_wp Try.func49 rfl trivial ?_ rfl
  simp only [Try.ntmps49, List.size_toArray, List.length_cons, List.length_nil, Nat.reduceAdd, Nat.reduceSub, Array.replicate_succ, Array.replicate_zero, List.push_toArray, List.append_toArray, List.nil_append, List.cons_append]
  have HPre := Lib.hid hpre
  clear hpre
  gi_wp2
  gi_loopw [3] (fun p wr => ∃ (s : List UInt8) (n : Nat), p = .int .i64 n ∧ J (s, n) wr ∧ Box bs 9 (S s) wr ∧ 1 ≤ n ∧ s.length + n ≤ 1000001) (fun p _ => (1000002 - intOf p).toNat)
  case atStart => exact ⟨s0, 1, by go_num, h0, HPre.out, by omega, by omega⟩
  case round =>
    obtain ⟨s, n, rfl, hj, hbx, hn1, hsn⟩ := hrel
    have hct := hbx.cell
    have hft := hbx.frozen
    by_cases hs : s = []
    · subst hs
      gi_wp2_with fail
      go_end0
      exact ⟨⟨_, rfl⟩, .inl ⟨_, rfl, hj⟩⟩
    · have hse : s.isEmpty = false := by simpa using hs
      have HNE := Lib.hid hs
      have HJ := Lib.hid hJ
      have HY := Lib.hid hY
      have HBX := Lib.hid hbx
      have HSN := Lib.hid hsn
      have hn : (n : Int) ≤ 1000001 := by omega
      have hln : (Tk.ln s).length ≤ 1000000 := by have := (List.takeWhile_prefix (p := (· != 10)) (l := s)).length_le; unfold Tk.ln; omega
      have hsl : s.length ≤ 1000000 := by omega
      clear hs hsn hJ hY hbx
      gi_wp2_with fail
      refine (callsIn_wide.2 (cut_any s _ hsl)).mono ?_
      rintro e w1 ⟨rfl, b1⟩
      have hbx1 := HBX.out.below b1
      have hj1 := HJ.out _ _ _ hj ⟨Keep.of_below b1 (fun g h => h.2), ⟨_, HBX.out⟩, ⟨_, hbx1⟩⟩
      clear hct hft hj
      have hct := hbx1.cell
      have hft := hbx1.frozen
      obtain ⟨fn, tmps, assign, body, hy, hR⟩ := HY.out (s, n) (Tk.rest s, n + 1) _ w1 hj1 ⟨HNE.out, HSN.out, rfl, rfl⟩
      have HR := Lib.hid hR
      have HBX1 := Lib.hid hbx1
      have HRL := Lib.hid (Tk.rest_len s HNE.out)
      clear hR hbx1 hj1
      rcases hh : Tk.has s with _ | _
      · have HL := Lib.hid (show Tk.ln s = Tk.line1 s by
          unfold Tk.line1; rw [hh]
          rcases Tk.idx_line s with ⟨_, _, h3, _⟩ | ⟨h1, _⟩
          · simpa using h3
          · rw [hh] at h1; cases h1)
        clear hh
        rw [HL.out]
        gi_wp2_with fail
        refine HR.out.mono ?_
        rintro e W3 (⟨rfl, hJ3, hk3⟩ | ⟨rfl, hJx3⟩)
        · have hbx3 : Box bs 9 (S s) W3 := hk3.2.trans HBX1.out
          have HBX3 := Lib.hid hbx3
          have hct := hbx3.cell
          have hft := hbx3.frozen
          clear hk3 hbx3
          gi_wp2_with fail
          go_roundw
          case rel => exact ⟨Tk.rest s, n + 1, by go_num, HJ.out _ _ _ hJ3 ⟨(Keep.refl _ _).setCell (fun h => h.1 rfl) _, ⟨_, HBX3.out⟩, ⟨_, HBX3.out.set _⟩⟩, HBX3.out.set _, by omega, by have := HRL.out; have := HSN.out; omega⟩
          case measure => simp [intOf]; omega
        · gi_wp2_with fail
          refine bodyPost_ret (results_none rfl _ _ _) rfl ?_
          exact ⟨⟨_, rfl⟩, .inr hJx3⟩
      · have HL := Lib.hid (show Tk.cr (Tk.ln s) = Tk.line1 s by unfold Tk.line1; rw [hh]; rfl)
        clear hh
        gi_wp2_with fail
        refine (callsIn_wide.2 (trim_any (Tk.ln s) _ hln)).mono ?_
        rintro e w2 ⟨rfl, rfl⟩
        rw [HL.out]
        gi_wp2_with fail
        refine HR.out.mono ?_
        rintro e W3 (⟨rfl, hJ3, hk3⟩ | ⟨rfl, hJx3⟩)
        · have hbx3 : Box bs 9 (S s) W3 := hk3.2.trans HBX1.out
          have HBX3 := Lib.hid hbx3
          have hct := hbx3.cell
          have hft := hbx3.frozen
          clear hk3 hbx3
          gi_wp2_with fail
          go_roundw
          case rel => exact ⟨Tk.rest s, n + 1, by go_num, HJ.out _ _ _ hJ3 ⟨(Keep.refl _ _).setCell (fun h => h.1 rfl) _, ⟨_, HBX3.out⟩, ⟨_, HBX3.out.set _⟩⟩, HBX3.out.set _, by omega, by have := HRL.out; have := HSN.out; omega⟩
          case measure => simp [intOf]; omega
        · gi_wp2_with fail
          refine bodyPost_ret (results_none rfl _ _ _) rfl ?_
          exact ⟨⟨_, rfl⟩, .inr hJx3⟩
end Go.Proofs.Yticljagcigiejaa
