/- Names: a copy, an end cut off, one more ahead. -/
import Derived.Test.YtikibmeopndncaaNmE
import Derived.Lib.SliceRun
namespace Go.Proofs.Ytikibmeopndncaa
open Go.RowKit Go.Shelf
set_option maxRecDepth 100000

theorem Rd.of_row {R e v l W} (h : Row R e 1 v l.length (l.map S) W) : Rd v l W := Rd.of_strs h.strs

section
variable {F : Fence} {n : Nat}
/-- APPEND, of texts that are read, to a row of the call's own. -/
theorem append_rd (R : Nat → Prop) {ops : Array Oper} {rest : List Oper} {o : Oper} {a : Act} {w : World} {Q : Exit → Act → World → Prop}
    (hg : o.guard = none) (s x : Operand) (t : TypeId) (ht : Try.prog.underlying t = some (.slice 9)) (hop : o.op = Op.call { callee := Callee.builtin Builtin.append, args := #[s, x], argTypes := #[t, t] })
    (v : Value) (k : Nat) (xs : List (List UInt8)) (hs : a.eval s = v) (hrow : Row R 9 1 v k (xs.map S) w) (u : Value) (l : List (List UInt8)) (hx : a.eval x = u) (hu : Rd u l w) (hb : k + l.length ≤ 100000) (hR : R w.heap.size)
    (hK : ∀ v' w', Row R 9 1 v' (k + l.length) ((xs ++ l).map S) w' → w.grownBy w' v.ownBlock → wpListIn F n Try.prog ops Q rest (a.put o.dst v') w') :
    wpListIn F n Try.prog ops Q (o :: rest) a w := by
  obtain ⟨i0, hi, hz0, hz1, hz2⟩ := info_parts Try.info_str
  obtain ⟨oa, cap, rfl, h1, h2, h3, h4⟩ := hu
  cases oa with
  | none =>
    obtain rfl : cap = 0 := h3 rfl
    have hl : l = [] := List.length_eq_zero_iff.1 (by omega)
    subst hl
    refine wpListIn_plain hg fun K hK' => ?_
    have hrun := run_append_owned_none (P := Try.prog) (w := w) 0 t o.type 9 i0 1 ht hi v k _ hrow.1
    unfold Oper.wpIn
    refine ⟨?_, ?_⟩
    · simp [Oper.about, hop, resolve, Target.leads, Sem.run_pure]
    · rw [Oper.semAt_plain F _ _ (by rw [hop]; intro c hc'; cases hc')]
      simp only [List.length_nil] at hx
      simp [execOp, hop, resolve, invoke, builtin, hs, hx, hrun, Result.andThen]
      exact hK' _ _ (hK _ _ (by simpa using hrow) ⟨rfl, rfl, rfl, Nat.le_refl _, fun _ _ _ => rfl⟩)
  | some ad =>
    refine append_in R hg s x t hop 9 i0 (.string ⟨#[]⟩) 1 16 ht hi hz0 hz1 hz2 rfl (by decide) v k (xs.map S) hs hrow ad l.length cap (l.map S) hx (by simp) (fun j u hj => ?_) (fun u hu => ?_) (by unfold maxLen; omega) (by omega) hR (fun v' w' hr hgr _ => hK v' w' (by rwa [List.map_append]) hgr)
    · rw [List.getElem?_map] at hj
      obtain ⟨y, hy, rfl⟩ := Option.map_eq_some_iff.1 hj
      obtain ⟨hjl, rfl⟩ := List.getElem?_eq_some_iff.1 hy
      obtain ⟨a', ha, hc⟩ := h4 j hjl
      cases ha; exact hc
    · obtain ⟨y, _, rfl⟩ := List.mem_map.1 hu
      rfl
end

theorem eql_nil_name (w : World) (o : Option Addr) (l c : Nat) : (binOp .eql 44 (.slice o l c) (.slice none 0 0)).run Try.prog w = .ok (.bool o.isNone) w := Lib.run_eql_slice_nil w _ _ o l c 0 0 Try.underlying44
attribute [local go_sem] eql_nil_name

abbrev Own (w : World) : Nat → Prop := fun g => w.heap.size ≤ g
theorem row_empty (w : World) : Row (Own w) 9 1 (.slice (some ⟨w.heap.size, 0, none⟩) 0 0) 0 [] (w.alloc (.cells #[] 9)) :=
  ⟨World.ownsRow_lit w #[] 0 (Nat.zero_le _) (by unfold maxLen; omega) rfl, fun g hg => by cases hg; exact Nat.le_refl _⟩
theorem row_one (x : List UInt8) (w : World) : Row (Own w) 9 1 (.slice (some ⟨w.heap.size, 0, none⟩) 1 1) 1 ([x].map S) (w.alloc (.cells #[S x] 9)) :=
  ⟨World.ownsRow_lit w #[S x] 1 (Nat.zero_le _) (by unfold maxLen; omega) rfl, fun g hg => by cases hg; exact Nat.le_refl _⟩

def RowOf (l : List (List UInt8)) (w : World) (e : Ending) (w' : World) : Prop := ∃ v, e = .returned v ∧ Row (Own w) 9 1 v l.length (l.map S) w' ∧ Below w.heap.size w w'
def RdOf (l : List (List UInt8)) (w : World) (e : Ending) (w' : World) : Prop := ∃ v, e = .returned v ∧ Rd v l w' ∧ Below w.heap.size w w'

set_option maxHeartbeats 1000000 in
theorem clone_any (v : Value) (n : List (List UInt8)) (w : World) (hv : Rd v n w) (hn : NB n) :
    Calls Try.prog 62 #[v] w (RowOf n w) := by
  have hn1 := hn.1
  obtain ⟨o, cap, rfl, h1, h2, h3, h4⟩ := id hv
  cases o with
  | none =>
    obtain rfl : cap = 0 := h3 rfl
    have hl : n = [] := List.length_eq_zero_iff.1 (by omega)
    subst hl
    go_enter Try.func62, Try.ntmps62
    go_wp2_with fail
    go_ret
    exact ⟨_, rfl, Row.nil _ _ _ _, Below.refl _ _⟩
  | some a =>
    refine (callsIn_wide (n := 0)).1 ?_
    refine callsIn_of_wp Try.func62 rfl trivial ?_ rfl
    simp only [Try.ntmps62, List.size_toArray, List.length_cons, List.length_nil, Nat.reduceAdd, Nat.reduceSub, Array.replicate_succ, Array.replicate_zero, List.push_toArray, List.append_toArray, List.nil_append, List.cons_append]
    gi_wp2_with (gi_at_builtin; refine append_rd (Own w) rfl _ _ _ Try.underlying44 rfl _ 0 [] (by rfl) (row_empty w) _ n (by rfl) (hv.kept fun p hp => (World.cell?_of_block (Below.heap_alloc _ _ _ (by omega)))) (by omega) (by simp) ?_; intro v' w' hrow hgr)
    simp only [Nat.zero_add, List.nil_append] at hrow
    go_ret
    exact ⟨_, rfl, hrow, ((Below.refl _ _).alloc (Nat.le_refl _) _).grown hgr (by simp) (fun g hg => by cases hg; exact Nat.le_refl _)⟩

set_option maxHeartbeats 1000000 in
theorem clip_any (v : Value) (n : List (List UInt8)) (w : World) (hv : Rd v n w) (hn : NB n) :
    Calls Try.prog 61 #[v] w fun e w' => ∃ v', e = .returned v' ∧ Rd v' n w' ∧ w' = w := by
  have hn1 := hn.1
  have n1 : (n.length : Int) ≤ 1000 := by omega
  obtain ⟨o, cap, rfl, h1, h2, h3, h4⟩ := id hv
  unfold maxLen at h2
  have HO := Lib.hid (show o = none → n.length = 0 from fun h => by have := h3 h; omega)
  have H4 := Lib.hid h4
  clear h3 h4 hv
  go_enter Try.func61, Try.ntmps61
  go_wp2_with fail
  go_ret
  exact ⟨_, rfl, ⟨o, n.length, rfl, Nat.le_refl _, by unfold maxLen; omega, HO.out, H4.out⟩, rfl⟩

theorem Row.rdOf {l w v w'} (h : Row (Own w) 9 1 v l.length (l.map S) w') : Rd v l w' := Rd.of_row h
/-- a row of its own, read in a later world -/
theorem RowOf.mono {l w e w'} (h : RowOf l w e w') : RdOf l w e w' := by
  obtain ⟨v, h1, h2, h3⟩ := h; exact ⟨v, h1, h2.rdOf, h3⟩

/-! ### the name above -/
set_option maxHeartbeats 1000000 in
theorem refParent_any (v : Value) (n : List (List UInt8)) (w : World) (hv : Rd v n w) (hn : NB n) :
    Calls Try.prog 42 #[v] w (RdOf (Nm.parent n) w) := by
  obtain ⟨o, cap, rfl, h1, h2⟩ := hv.form
  have n1 : (n.length : Int) ≤ 1000 := by have := hn.1; omega
  by_cases h0 : n = []
  · subst h0
    clear hv
    go_enter Try.func42, Try.ntmps42
    go_wp2
    go_ret
    exact ⟨_, rfl, Rd.nil _, Below.refl _ _⟩
  · have hp := List.length_pos_iff.2 h0
    have hp' : (0 : Int) < n.length := by omega
    have hl0 : ((n.length : Int) == 0) = false := by rw [beq_eq_false_iff_ne]; omega
    have HT0 := Lib.hid (show cap = 1 → Rd _ (Nm.parent n) w from fun hc => hv.tail0 1 hp hc)
    have HT := Lib.hid (show Rd _ (Nm.parent n) w from hv.tail 1 hp)
    clear hv h0
    go_enter Try.func42, Try.ntmps42
    go_wp2_with fail
    all_goals go_ret
    · exact ⟨_, rfl, HT0.out (by assumption), Below.refl _ _⟩
    · exact ⟨_, rfl, HT.out, Below.refl _ _⟩

set_option maxHeartbeats 1000000 in
theorem nParent_any (v : Value) (n : List (List UInt8)) (w : World) (hv : Rd v n w) (hn : NB n) :
    Calls Try.prog 41 #[v] w (RdOf (Nm.parent n) w) := by
  obtain ⟨o, cap, rfl, h1, h2⟩ := hv.form
  have n1 : (n.length : Int) ≤ 1000 := by have := hn.1; omega
  by_cases h0 : n = []
  · subst h0
    clear hv
    go_enter Try.func41, Try.ntmps41
    go_wp2
    go_ret
    exact ⟨_, rfl, Rd.of_row (row_empty w), (Below.refl _ _).alloc (Nat.le_refl _) _⟩
  · have hp := List.length_pos_iff.2 h0
    have hp' : (0 : Int) < n.length := by omega
    have hl0 : ((n.length : Int) == 0) = false := by rw [beq_eq_false_iff_ne]; omega
    have HT0 := Lib.hid (show cap = 1 → Rd _ (Nm.parent n) w from fun hc => hv.tail0 1 hp hc)
    have HT := Lib.hid (show Rd _ (Nm.parent n) w from hv.tail 1 hp)
    have ND := Lib.hid (show NB (Nm.parent n) from hn.drop 1)
    clear hv h0
    go_enter Try.func41, Try.ntmps41
    go_wp2_with fail
    · refine (clone_any _ _ _ (HT0.out (by assumption)) ND.out).mono ?_
      rintro e w1 ⟨v1, rfl, hr1, b1⟩
      go_wp2_with fail
      refine (clip_any _ _ _ hr1.rdOf ND.out).mono ?_
      rintro e w2 ⟨v2, rfl, hr2, rfl⟩
      go_wp2_with fail
      go_ret
      exact ⟨_, rfl, hr2, b1⟩
    · refine (clone_any _ _ _ HT.out ND.out).mono ?_
      rintro e w1 ⟨v1, rfl, hr1, b1⟩
      go_wp2_with fail
      refine (clip_any _ _ _ hr1.rdOf ND.out).mono ?_
      rintro e w2 ⟨v2, rfl, hr2, rfl⟩
      go_wp2_with fail
      go_ret
      exact ⟨_, rfl, hr2, b1⟩

/-! ### a name with a label ahead -/
set_option maxHeartbeats 1000000 in
theorem nChild_any (x : List UInt8) (v : Value) (n : List (List UInt8)) (w : World) (hv : Rd v n w) (hn : NB n) :
    Calls Try.prog 45 #[S x, v] w (RdOf (x :: n) w) := by
  have hn1 := hn.1
  refine (callsIn_wide (n := 0)).1 ?_
  refine callsIn_of_wp Try.func45 rfl trivial ?_ rfl
  simp only [Try.ntmps45, List.size_toArray, List.length_cons, List.length_nil, Nat.reduceAdd, Nat.reduceSub, Array.replicate_succ, Array.replicate_zero, List.push_toArray, List.append_toArray, List.nil_append, List.cons_append]
  gi_wp2_with (gi_at_builtin; refine append_rd (Own w) rfl _ _ _ Try.underlying44 rfl _ 1 [x] (by rfl) (row_one x w) _ n (by rfl) (hv.kept fun p hp => (World.cell?_of_block (Below.heap_alloc _ _ _ (by omega)))) (by omega) (by simp) ?_; intro v' w' hrow hgr)
  rw [show 1 + n.length = (x :: n).length by simp; omega] at hrow
  go_ret
  exact ⟨_, rfl, Rd.of_row hrow, ((Below.refl _ _).alloc (Nat.le_refl _) _).grown hgr (by simp) (fun g hg => by cases hg; exact Nat.le_refl _)⟩
set_option maxHeartbeats 1000000 in
theorem refChild_any (x : List UInt8) (v : Value) (n : List (List UInt8)) (w : World) (hv : Rd v n w) (hn : NB n) :
    Calls Try.prog 46 #[S x, v] w (RdOf (x :: n) w) := by
  have hn1 := hn.1
  refine (callsIn_wide (n := 0)).1 ?_
  refine callsIn_of_wp Try.func46 rfl trivial ?_ rfl
  simp only [Try.ntmps46, List.size_toArray, List.length_cons, List.length_nil, Nat.reduceAdd, Nat.reduceSub, Array.replicate_succ, Array.replicate_zero, List.push_toArray, List.append_toArray, List.nil_append, List.cons_append]
  gi_wp2_with (gi_at_builtin; refine append_rd (Own w) rfl _ _ _ Try.underlying40 rfl _ 1 [x] (by rfl) (row_one x w) _ n (by rfl) (hv.kept fun p hp => (World.cell?_of_block (Below.heap_alloc _ _ _ (by omega)))) (by omega) (by simp) ?_; intro v' w' hrow hgr)
  rw [show 1 + n.length = (x :: n).length by simp; omega] at hrow
  go_ret
  exact ⟨_, rfl, Rd.of_row hrow, ((Below.refl _ _).alloc (Nat.le_refl _) _).grown hgr (by simp) (fun g hg => by cases hg; exact Nat.le_refl _)⟩
end Go.Proofs.Ytikibmeopndncaa
