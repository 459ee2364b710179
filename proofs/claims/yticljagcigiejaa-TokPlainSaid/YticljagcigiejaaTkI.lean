/- The reference's lexer: what it holds; begin, end. -/
import Derived.Test.YticljagcigiejaaTkH
namespace Go.Proofs.Yticljagcigiejaa
open Go.RowKit Go.Shelf
set_option maxRecDepth 100000

section
variable {F : Fence} {n : Nat} {P : Program} {ops : Array Oper} {Q : Exit → Act → World → Prop}
theorem opH (i : Nat) {oi : Oper} {fuel : Nat} {listed : Array Bool} {a : Act} {w : World} {N : List Nat} {S : World → Prop} (hi : ops.toList[i]? = some oi)
    (h : ∀ K : Act → World → Prop, (∀ a' w', (i ∈ N → S w') → wpAnyH F n P ops (NoPan Q) N S fuel (listed.setIfInBounds i true) a' w' → K a' w') →
      wpListIn F n P ops (Exit.then K (NoPan Q)) [oi] a w) :
    wpOpIn F n P ops (NoPan Q) i (fun a' w' => (i ∈ N → S w') ∧ wpAnyH F n P ops (NoPan Q) N S fuel (listed.setIfInBounds i true) a' w') a w := by
  replace hi : ops[i]? = some oi := by rw [← Array.getElem?_toList]; exact hi
  have := h _ (fun a' w' h1 h2 => (⟨h1, h2⟩ : (i ∈ N → S w') ∧ wpAnyH F n P ops (NoPan Q) N S fuel (listed.setIfInBounds i true) a' w'))
  unfold wpOpIn
  simp only [wpListIn] at this
  simp only [hi]
  by_cases hw : Region.wanted oi (yielded ops a.tmps) = true
  · rw [if_pos hw] at this ⊢
    refine ⟨this.1, ?_⟩
    have h2 := this.2
    generalize (oi.semAt F.round a.eval).run P w = r at *
    cases r with
    | ok x w' =>
      cases x <;> simp only [Oper.uponIn] at h2 ⊢
      case value u => exact h2
      case skip => exact h2
      case defer d => exact h2
      case enter f args =>
        refine ⟨h2.1, CallsIn.mono h2.2 fun e w'' he => ?_⟩
        cases e with
        | returned u => exact he
        | panicked c => exact he
        | outgrown => exact letsOut_then he
      case row row args => exact ⟨h2.1, RowsIn.mono h2.2 fun u w'' he => he⟩
      case round l f tmps assign body =>
        refine ⟨h2.1, RoundIn.mono h2.2 fun e w'' he => ?_⟩
        cases e with
        | returned u => exact he
        | panicked c => exact he
        | outgrown => exact letsOut_then he
    | halt x w' => cases x <;> simp only [Oper.uponIn] at h2 ⊢ <;> exact h2
  · rw [if_neg hw] at this ⊢
    exact this
/-- either of two operations may come up -/
theorem twoH (i j : Nat) {oi oj : Oper} {fuel : Nat} {listed : Array Bool} {a : Act} {w : World} {N : List Nat} {S : World → Prop} (hi : ops.toList[i]? = some oi) (hj : ops.toList[j]? = some oj)
    (hr : Region.ready .any ops listed = [i, j])
    (h1 : ∀ K : Act → World → Prop, (∀ a' w', (i ∈ N → S w') → wpAnyH F n P ops (NoPan Q) N S fuel (listed.setIfInBounds i true) a' w' → K a' w') → wpListIn F n P ops (Exit.then K (NoPan Q)) [oi] a w)
    (h2 : ∀ K : Act → World → Prop, (∀ a' w', (j ∈ N → S w') → wpAnyH F n P ops (NoPan Q) N S fuel (listed.setIfInBounds j true) a' w' → K a' w') → wpListIn F n P ops (Exit.then K (NoPan Q)) [oj] a w) :
    wpAnyH F n P ops (NoPan Q) N S (fuel + 1) listed a w := by
  refine ⟨fun h0 => (by rw [hr] at h0; cases h0), fun k hk => ?_⟩
  rw [hr] at hk
  simp only [List.mem_cons, List.not_mem_nil, or_false] at hk
  rcases hk with rfl | rfl
  · exact opH k hi h1
  · exact opH k hj h2
end

namespace Tk
/-- the reference's lexer -/
structure Lx where
  out : List En
  line : Nat
  blank : Bool
  words : List Wd
  on : Bool
  opn : Nat
  first : Nat
  wd : List UInt8
  inn : Bool
def lx0 : Lx := ⟨[], 0, false, [], false, 0, 0, [], false⟩
def Lx.flush (x : Lx) (q : Bool) (n : Nat) : Lx := if x.inn = false ∧ q = false then x else { x with line := if x.words = [] then n else x.line, words := x.words ++ [(x.wd, q)], wd := [], inn := false }
def Lx.begin (x : Lx) (b : Bool) : Lx := if x.on then x else { x with on := true, blank := b }
def Lx.fin (x : Lx) : Lx := if 0 < x.opn then x else ⟨if x.words = [] then x.out else x.out ++ [⟨x.line, x.blank, x.words⟩], 0, false, [], false, x.opn, x.first, x.wd, x.inn⟩
def Lx.st (x : Lx) : St := ⟨x.out, x.line, x.blank, x.words, []⟩
def LxRd (Z : Nat → Prop) (b : Nat) (x : Lx) (W : World) : Prop :=
  ∃ Fz vo vw us, W.heap[b]? = some (.cells #[vo, .int .i64 x.line, .bool x.blank, vw, .bool x.on, .int .i64 x.opn, .int .i64 x.first, S x.wd, .bool x.inn] 73 (0, 0)) ∧ Rest 35 38 Z b Fz vo vw (.slice none 0 0) us x.st W
theorem LxRd.kept {Z b x} {W W' : World} (h : LxRd Z b x W) (hs : W.heap.size ≤ W'.heap.size) (hk : ∀ g, ¬ Z g → g < W.heap.size → W'.heap[g]? = W.heap[g]?) : LxRd Z b x W' := by
  obtain ⟨Fz, vo, vw, us, hc, hr⟩ := h
  exact ⟨Fz, vo, vw, us, (hk b hr.bz hr.bl).trans hc, hr.kept hs (fun g hz _ hl => hk g hz hl)⟩
theorem LxRd.alloc {Z b x} {W : World} (h : LxRd Z b x W) (o : Obj) : LxRd Z b x (W.alloc o) := h.kept (by simp) (fun g _ hl => Below.heap_alloc _ _ _ hl)
theorem LxRd.drew {Z b x} {W : World} (h : LxRd Z b x W) : LxRd Z b x W.drew := h.kept (Nat.le_refl _) (fun _ _ _ => rfl)
theorem LxRd.zl {Z b x} {W : World} (h : LxRd Z b x W) : ∀ g, Z g → g < W.heap.size := by
  obtain ⟨Fz, vo, vw, us, hc, hr⟩ := h; exact hr.zl
theorem LxRd.bz {Z b x} {W : World} (h : LxRd Z b x W) : ¬ Z b := by
  obtain ⟨Fz, vo, vw, us, hc, hr⟩ := h; exact hr.bz
theorem LxRd.cells {Z b x} {W : World} (h : LxRd Z b x W) : ∃ vo o cap, (∀ j v, #[vo, Value.int .i64 (x.line : Int), .bool x.blank, .slice o x.words.length cap, .bool x.on, .int .i64 (x.opn : Int), .int .i64 (x.first : Int), S x.wd, .bool x.inn][j]? = some v → W.cell? ⟨b, j, none⟩ = some v) ∧ (∀ j, W.frozen? ⟨b, j, none⟩ = false) ∧ b < W.heap.size ∧ EnRd (fun g => ¬ Z g ∧ g ≠ b) vo x.out W := by
  obtain ⟨Fz, vo, vw, us, hc, hr⟩ := h
  obtain ⟨o, cap, rfl⟩ := hr.rw.form
  exact ⟨vo, o, cap, cells_of hc, frozen_of hc, hr.bl, hr.entries⟩
theorem LxRd.setOn {Z b x} {W : World} (h : LxRd Z b x W) (v : Bool) : LxRd Z b { x with on := v } (W.setCell ⟨b, 4, none⟩ (.bool v)) := by
  obtain ⟨Fz, vo, vw, us, hc, hr⟩ := h; exact ⟨Fz, vo, vw, us, block_set hc 4 _, hr.set 4 _⟩
theorem LxRd.setBlank {Z b x} {W : World} (h : LxRd Z b x W) (v : Bool) : LxRd Z b { x with blank := v } (W.setCell ⟨b, 2, none⟩ (.bool v)) := by
  obtain ⟨Fz, vo, vw, us, hc, hr⟩ := h; exact ⟨Fz, vo, vw, us, block_set hc 2 _, (hr.set 2 _).line _ _⟩
theorem LxRd.setOpn {Z b x} {W : World} (h : LxRd Z b x W) (v : Nat) : LxRd Z b { x with opn := v } (W.setCell ⟨b, 5, none⟩ (.int .i64 v)) := by
  obtain ⟨Fz, vo, vw, us, hc, hr⟩ := h; exact ⟨Fz, vo, vw, us, block_set hc 5 _, hr.set 5 _⟩
theorem LxRd.setFirst {Z b x} {W : World} (h : LxRd Z b x W) (v : Nat) : LxRd Z b { x with first := v } (W.setCell ⟨b, 6, none⟩ (.int .i64 v)) := by
  obtain ⟨Fz, vo, vw, us, hc, hr⟩ := h; exact ⟨Fz, vo, vw, us, block_set hc 6 _, hr.set 6 _⟩
theorem LxRd.setWd {Z b x} {W : World} (h : LxRd Z b x W) (v : List UInt8) : LxRd Z b { x with wd := v } (W.setCell ⟨b, 7, none⟩ (S v)) := by
  obtain ⟨Fz, vo, vw, us, hc, hr⟩ := h; exact ⟨Fz, vo, vw, us, block_set hc 7 _, hr.set 7 _⟩
theorem LxRd.setInn {Z b x} {W : World} (h : LxRd Z b x W) (v : Bool) : LxRd Z b { x with inn := v } (W.setCell ⟨b, 8, none⟩ (.bool v)) := by
  obtain ⟨Fz, vo, vw, us, hc, hr⟩ := h; exact ⟨Fz, vo, vw, us, block_set hc 8 _, hr.set 8 _⟩
end Tk
theorem info_rEntry : (Try.prog.info? 35).map (fun i => (i.zero, i.size, i.bytes)) = some (some (.agg #[.int .i64 0, .bool false, .slice none 0 0]), 3, 40) := by kernel_rfl
theorem info_rWord : (Try.prog.info? 38).map (fun i => (i.zero, i.size, i.bytes)) = some (some (.agg #[.string ⟨#[]⟩, .bool false]), 2, 24) := by kernel_rfl

set_option maxHeartbeats 1000000 in
theorem rbegin_any (Z : Nat → Prop) (b : Nat) (x : Tk.Lx) (bl : Bool) (w : World) (h : Tk.LxRd Z b x w) :
    Calls Try.prog 57 #[.pointer (some ⟨b, 0, none⟩), .bool bl] w fun e w' => e = .returned (.tuple #[]) ∧ Tk.LxRd Z b (x.begin bl) w' ∧ Keep Z w w' := by
  obtain ⟨vo, o, cap, hcell, hz, hb, _⟩ := h.cells
  have c4 := hcell 4 _ rfl
  have c2 := hcell 2 _ rfl
  have HH := Lib.hid h
  obtain ⟨out, line, blank, words, on, opn, first, wd, inn⟩ := x
  clear hcell h
  cases on with
  | true =>
    go_enter Try.func57, Try.ntmps57
    go_wp2_with fail
    go_end0
    exact ⟨rfl, HH.out, Keep.refl _ _⟩
  | false =>
    go_enter Try.func57, Try.ntmps57
    go_wp2_with fail
    go_end0
    exact ⟨rfl, (HH.out.setOn true).setBlank bl, ((Keep.refl _ _).setCell HH.out.bz _).setCell HH.out.bz _⟩

set_option maxHeartbeats 2000000 in
theorem rend_any (Z : Nat → Prop) (b : Nat) (x : Tk.Lx) (w : World) (h : Tk.LxRd Z b x w) (hl : x.out.length ≤ 1000000) (hwl : x.words.length ≤ 1000000) :
    Calls Try.prog 59 #[.pointer (some ⟨b, 0, none⟩)] w fun e w' => e = .returned (.tuple #[]) ∧ Tk.LxRd Z b x.fin w' ∧ Keep Z w w' := by
  obtain ⟨out, line, blank, words, on, opn, first, wd, inn⟩ := x
  obtain ⟨Fz, vo, vw, us, hc, hr⟩ := h
  simp only at hc hl hwl
  obtain ⟨i0, hi, hz0, hz1, hz2⟩ := info_parts info_rEntry
  obtain ⟨o, cap, rfl⟩ := hr.rw.form
  obtain ⟨o', cap', rfl⟩ := hr.ro.form
  simp only [Tk.Lx.st] at hc hr
  have c0 := cells_of hc 0 _ rfl
  have c1 := cells_of hc 1 _ rfl
  have c2 := cells_of hc 2 _ rfl
  have c3 := cells_of hc 3 _ rfl
  have c4 := cells_of hc 4 _ rfl
  have c5 := cells_of hc 5 _ rfl
  have hz := frozen_of hc
  have hb := hr.bl
  have HR := Lib.hid hr
  have HC := Lib.hid hc
  have HI := Lib.hid hi
  have HZ0 := Lib.hid hz0
  have HZ1 := Lib.hid hz1
  have HZ2 := Lib.hid hz2
  clear hr hc hi hz0 hz1 hz2
  by_cases hop : 0 < opn
  · have hop' : (0 : Int) < opn := by omega
    have HOP := Lib.hid hop
    clear hop
    refine (callsIn_wide (n := 0)).1 ?_
    refine callsIn_of_wp Try.func59 rfl trivial ?_ rfl
    simp only [Try.ntmps59, List.size_toArray, List.length_cons, List.length_nil, Nat.reduceAdd, Nat.reduceSub, Array.replicate_succ, Array.replicate_zero, List.push_toArray, List.append_toArray, List.nil_append, List.cons_append]
    gi_wp2_with fail
    refine bodyPost_ret (results_none rfl _ _ _) rfl ?_
    exact ⟨rfl, by unfold Tk.Lx.fin; rw [if_pos HOP.out]; exact ⟨Fz, _, _, us, HC.out, HR.out⟩, Keep.refl _ _⟩
  have hop' : ¬ (0 : Int) < opn := by omega
  have HOP := Lib.hid hop
  clear hop
  by_cases hk : words = []
  · have HK := Lib.hid hk
    have hk0 : ¬ (0 < (words.length : Int)) := by rw [hk]; simp
    clear hk
    refine (callsIn_wide (n := 0)).1 ?_
    refine callsIn_of_wp Try.func59 rfl trivial ?_ rfl
    simp only [Try.ntmps59, List.size_toArray, List.length_cons, List.length_nil, Nat.reduceAdd, Nat.reduceSub, Array.replicate_succ, Array.replicate_zero, List.push_toArray, List.append_toArray, List.nil_append, List.cons_append]
    gi_wp2_with fail
    go_end0
    refine ⟨rfl, ?_, ((((Keep.refl _ _).setCell HR.out.bz _).setCell HR.out.bz _).setCell HR.out.bz _).setCell HR.out.bz _⟩
    unfold Tk.Lx.fin
    rw [if_neg HOP.out]
    refine ⟨Fz, .slice o' out.length cap', .slice none 0 0, us, ?_, ?_⟩
    · exact block_set (block_set (block_set (block_set HC.out 1 (.int .i64 0)) 2 (.bool false)) 3 (.slice none 0 0)) 4 (.bool false)
    · unfold Tk.Lx.st
      simp only [HK.out, if_true]
      have := ((((HR.out.dropW.set 1 (.int .i64 0)).set 2 (.bool false)).set 3 (.slice none 0 0)).set 4 (.bool false)).line 0 false
      exact this
  · have hk0 : 0 < (words.length : Int) := by have := List.length_pos_iff.2 hk; omega
    have HK := Lib.hid hk
    clear hk
    refine (callsIn_wide (n := 0)).1 ?_
    refine callsIn_of_wp Try.func59 rfl trivial ?_ rfl
    simp only [Try.ntmps59, List.size_toArray, List.length_cons, List.length_nil, Nat.reduceAdd, Nat.reduceSub, Array.replicate_succ, Array.replicate_zero, List.push_toArray, List.append_toArray, List.nil_append, List.cons_append]
    gi_wp2_with fail
    refine drawnH [4, 8, 9, 10] (fun w' => w'.cell? ⟨b, 0, none⟩ = some (.slice o' out.length cap') ∧ w'.cell? ⟨b, 1, none⟩ = some (.int .i64 line) ∧ w'.cell? ⟨b, 2, none⟩ = some (.bool blank) ∧ w'.cell? ⟨b, 3, none⟩ = some (.slice o words.length cap)) 14 rfl (by kernel_rfl) ?_
    intro w' hw'
    obtain ⟨HC2, HR2, HK2⟩ : Hid (w'.heap[b]? = _) ∧ Hid (Tk.Rest _ _ _ _ _ _ _ _ _ _ w') ∧ Hid (Keep Z w w') := by
      subst hw'; exact ⟨HC, Lib.hid HR.out.drew, Lib.hid (Keep.refl _ _).drew⟩
    clear hw'
    have hS : w'.cell? ⟨b, 0, none⟩ = some (.slice o' out.length cap') ∧ w'.cell? ⟨b, 1, none⟩ = some (.int .i64 line) ∧ w'.cell? ⟨b, 2, none⟩ = some (.bool blank) ∧ w'.cell? ⟨b, 3, none⟩ = some (.slice o words.length cap) := ⟨cells_of HC2.out 0 _ rfl, cells_of HC2.out 1 _ rfl, cells_of HC2.out 2 _ rfl, cells_of HC2.out 3 _ rfl⟩
    refine takeP 0 (v := ?qv0) (fun _ => trivial) (by rfl) (by kernel_rfl) (.inl ⟨by kernel_rfl, fun w1 _ => ?qy0⟩) ?_
    case qy0 => (go_simp; try first | rfl | (rw [if_pos (by omega)]) | (rw [if_neg (by omega)]) | (rw [if_neg (by simp; omega)]) | (split <;> first | (exfalso; omega) | rfl))
    refine takeP 1 (v := ?qv1) (fun _ => trivial) (by rfl) (by kernel_rfl) (.inl ⟨by kernel_rfl, fun w1 _ => ?qy1⟩) ?_
    case qy1 => (go_simp; try first | rfl | (rw [if_pos (by omega)]) | (rw [if_neg (by omega)]) | (rw [if_neg (by simp; omega)]) | (split <;> first | (exfalso; omega) | rfl))
    refine takeP 2 (v := ?qv2) (fun _ => trivial) (by rfl) (by kernel_rfl) (.inl ⟨by kernel_rfl, fun w1 _ => ?qy2⟩) ?_
    case qy2 => (go_simp; try first | rfl | (rw [if_pos (by omega)]) | (rw [if_neg (by omega)]) | (rw [if_neg (by simp; omega)]) | (split <;> first | (exfalso; omega) | rfl))
    refine takeP 3 (v := ?qv3) (fun _ => trivial) (by rfl) (by kernel_rfl) (.inl ⟨by kernel_rfl, fun w1 _ => ?qy3⟩) ?_
    case qy3 => (go_simp; try first | rfl | (rw [if_pos (by omega)]) | (rw [if_neg (by omega)]) | (rw [if_neg (by simp; omega)]) | (split <;> first | (exfalso; omega) | rfl))
    refine takeP 5 (v := ?qv5) (fun _ => trivial) (by rfl) (by kernel_rfl) (.inl ⟨by kernel_rfl, fun w1 _ => ?qy5⟩) ?_
    case qy5 => (go_simp; try first | rfl | (rw [if_pos (by omega)]) | (rw [if_neg (by omega)]) | (rw [if_neg (by simp; omega)]) | (split <;> first | (exfalso; omega) | rfl))
    refine takeP 6 (v := ?qv6) (fun _ => trivial) (by rfl) (by kernel_rfl) (.inl ⟨by kernel_rfl, fun w1 _ => ?qy6⟩) ?_
    case qy6 => (go_simp; try first | rfl | (rw [if_pos (by omega)]) | (rw [if_neg (by omega)]) | (rw [if_neg (by simp; omega)]) | (split <;> first | (exfalso; omega) | rfl))
    refine takeP 7 (v := ?qv7) (fun _ => trivial) (by rfl) (by kernel_rfl) (.inl ⟨by kernel_rfl, fun w1 _ => ?qy7⟩) ?_
    case qy7 => (go_simp; try first | rfl | (rw [if_pos (by omega)]) | (rw [if_neg (by omega)]) | (rw [if_neg (by simp; omega)]) | (split <;> first | (exfalso; omega) | rfl))
    refine takeH 4 (v := ?qv4) (fun _ => trivial) (by rfl) (by kernel_rfl) hS (.inl ⟨by kernel_rfl, fun w1 ⟨a1, a2, a3, a4⟩ => ?qy4⟩) ?_
    case qy4 => (go_simp; try first | rfl | (rw [if_pos (by omega)]) | (rw [if_neg (by omega)]) | (rw [if_neg (by simp; omega)]) | (split <;> first | (exfalso; omega) | rfl))
    refine takeH 8 (v := ?qv8) (fun _ => trivial) (by rfl) (by kernel_rfl) hS (.inl ⟨by kernel_rfl, fun w1 ⟨a1, a2, a3, a4⟩ => ?qy8⟩) ?_
    case qy8 => (go_simp; try first | rfl | (rw [if_pos (by omega)]) | (rw [if_neg (by omega)]) | (rw [if_neg (by simp; omega)]) | (split <;> first | (exfalso; omega) | rfl))
    refine oneH 9 (by rfl) (by kernel_rfl) (fun K hK => ?_)
    gi_wp2_with fail
    have HR3 := Lib.hid (HR2.out.alloc (.cells #[.int .i64 line, .bool blank, .slice o words.length cap] 35))
    have HK3 := Lib.hid (HR2.out.keepAlloc HK2.out (.cells #[.int .i64 line, .bool blank, .slice o words.length cap] 35))
    have HC3 := Lib.hid ((Below.heap_alloc w' (.cells #[.int .i64 line, .bool blank, .slice o words.length cap] 35) b HR2.out.bl).trans HC2.out)
    have HN3 := Lib.hid (World.alloc_heap_new w' (.cells #[.int .i64 line, .bool blank, .slice o words.length cap] 35))
    obtain ⟨W3, hW3⟩ : ∃ W3, w'.alloc (.cells #[.int .i64 line, .bool blank, .slice o words.length cap] 35) = W3 := ⟨_, rfl⟩
    rw [hW3] at HR3 HK3 HC3 HN3
    refine hK _ _ (fun _ => by rw [hW3]; exact ⟨cells_of HC3.out 0 _ rfl, cells_of HC3.out 1 _ rfl, cells_of HC3.out 2 _ rfl, cells_of HC3.out 3 _ rfl⟩) ?_
    clear hK K
    rw [hW3]
    clear hW3 hS HC2 HR2 HK2
    refine oneH 10 (by rfl) (by kernel_rfl) (fun K hK => ?_)
    gi_wp2_with (gi_at_builtin; refine append_in (fun g => ((¬ Z g ∧ g ≠ b ∧ ¬ Fz g) ∧ (Value.slice none 0 0).ownBlock ≠ some g) ∧ (Value.slice o words.length cap).ownBlock ≠ some g) rfl _ _ 27 rfl 35 i0 (.agg #[.int .i64 0, .bool false, .slice none 0 0]) 3 40 Try.underlying27 HI.out HZ0.out HZ1.out HZ2.out rfl (by decide) _ out.length (Tk.cellsE out us) (by rfl) HR3.out.ro' ⟨w'.heap.size, 0, none⟩ 1 1 [.int .i64 line, .bool blank, .slice o words.length cap] (by rfl) (by rfl) (fun j u hj => by match j, hj with | 0, hj => cases hj; exact cells_of HN3.out 0 _ rfl | 1, hj => cases hj; exact cells_of HN3.out 1 _ rfl | 2, hj => cases hj; exact cells_of HN3.out 2 _ rfl | j + 3, hj => simp at hj) (by intro u hu; simp at hu; rcases hu with rfl | rfl | rfl <;> rfl) (by unfold maxLen; omega) (by omega) ⟨HR3.out.fresh.1.1, HR3.out.fresh.2⟩ ?_; intro v2 w2 hrow2 hgr2 _)
    obtain ⟨o2, cap2, rfl⟩ := hrow2.form
    have HR4 := Lib.hid (HR3.out.growO ⟨line, blank, words⟩ rfl hgr2 hrow2)
    have HC4 := Lib.hid ((hgr2.block b HR3.out.bl (fun e => (HR3.out.ro.2 b e.symm).1.2.1 rfl)).trans HC3.out)
    have HK4 := Lib.hid (HK3.out.grown hgr2 (HR3.out.ro.keepsOthers hgr2) HR3.out.zl (fun k hk => (HR3.out.ro.2 k hk).1.1))
    have c0' := cells_of HC4.out 0 _ rfl
    have c1' := cells_of HC4.out 1 _ rfl
    have c2' := cells_of HC4.out 2 _ rfl
    have c3' := cells_of HC4.out 3 _ rfl
    have c4' := cells_of HC4.out 4 _ rfl
    have hz' := frozen_of HC4.out
    have hb' := HR4.out.bl
    refine hK _ _ (fun _ => ⟨c0', c1', c2', c3'⟩) ?_
    clear hK K HR3 HC3 HN3 HK3 hrow2 hgr2
    refine takeP 11 (v := ?qv11) (fun _ => trivial) (by rfl) (by kernel_rfl) (.inl ⟨by kernel_rfl, fun w1 _ => ?qy11⟩) ?_
    case qy11 => (go_simp; try first | rfl | (rw [if_pos (by omega)]) | (rw [if_neg (by omega)]) | (rw [if_neg (by simp; omega)]) | (split <;> first | (exfalso; omega) | rfl))
    refine takeP 12 (v := ?qv12) (fun _ => trivial) (by rfl) (by kernel_rfl) (.inl ⟨by kernel_rfl, fun w1 _ => ?qy12⟩) ?_
    case qy12 => (go_simp; try first | rfl | (rw [if_pos (by omega)]) | (rw [if_neg (by omega)]) | (rw [if_neg (by simp; omega)]) | (split <;> first | (exfalso; omega) | rfl))
    refine oneH 13 (by rfl) (by kernel_rfl) (fun K hK => ?_)
    gi_wp2_with fail
    refine hK _ _ (fun h => absurd h (by decide)) ?_
    clear hK K
    refine doneH (by kernel_rfl) ?_
    gi_wp2_with fail
    go_end0
    refine ⟨rfl, ?_, (((((HK4.out.setCell HR4.out.bz _).setCell HR4.out.bz _).setCell HR4.out.bz _).setCell HR4.out.bz _).setCell HR4.out.bz _)⟩
    unfold Tk.Lx.fin
    rw [if_neg HOP.out]
    refine ⟨fun g => Fz g ∨ (Value.slice o words.length cap).ownBlock = some g, .slice o2 (out.length + 1) cap2, .slice none 0 0, us ++ [.slice o words.length cap], ?_, ?_⟩
    · exact block_set (block_set (block_set (block_set (block_set HC4.out 0 (.slice o2 (out.length + 1) cap2)) 1 (.int .i64 0)) 2 (.bool false)) 3 (.slice none 0 0)) 4 (.bool false)
    · unfold Tk.Lx.st
      simp only [if_neg HK.out]
      have := (((((HR4.out.set 0 (.slice o2 (out.length + 1) cap2)).set 1 (.int .i64 0)).set 2 (.bool false)).set 3 (.slice none 0 0)).set 4 (.bool false)).line 0 false
      exact this
end Go.Proofs.Yticljagcigiejaa
