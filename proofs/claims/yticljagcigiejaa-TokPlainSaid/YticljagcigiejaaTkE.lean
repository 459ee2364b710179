/- A reader ends an entry; it takes a bracket. -/
import Derived.Test.YticljagcigiejaaTkD
namespace Go.Proofs.Yticljagcigiejaa
open Go.RowKit Go.Shelf
set_option maxRecDepth 100000

theorem info_tEntry : (Try.prog.info? 32).map (fun i => (i.zero, i.size, i.bytes)) = some (some (.agg #[.int .i64 0, .bool false, .slice none 0 0]), 3, 40) := by kernel_rfl
theorem info_int : (Try.prog.info? 3).map (fun i => (i.zero, i.size, i.bytes)) = some (some (.int .i64 0), 1, 8) := by kernel_rfl
theorem Tk.Rest.ro' {TE TW Z b Fz vo vw vp us st} {W : World} (h : Tk.Rest TE TW Z b Fz vo vw vp us st W) : Row (fun g => ((¬ Z g ∧ g ≠ b ∧ ¬ Fz g) ∧ vp.ownBlock ≠ some g) ∧ vw.ownBlock ≠ some g) TE 3 vo st.out.length (Tk.cellsE st.out us) W :=
  ⟨h.ro.1, fun g hg => ⟨h.ro.2 g hg, fun e => (h.rw.2 g e).2 hg⟩⟩
theorem Tk.Rest.rp' {TE TW Z b Fz vo vw vp us st} {W : World} (h : Tk.Rest TE TW Z b Fz vo vw vp us st W) : Row (fun g => (¬ Z g ∧ g ≠ b ∧ ¬ Fz g) ∧ vo.ownBlock ≠ some g ∧ vw.ownBlock ≠ some g) 3 1 vp st.opens.length (Tk.cellsI st.opens) W :=
  ⟨h.rp.1, fun g hg => ⟨h.rp.2 g hg, fun e => (h.ro.2 g e).2 hg, fun e => (h.rw.2 g e).1.2 hg⟩⟩
theorem Row.pop {R e o n cap xs} {W : World} (h : Row R e 1 (.slice o n cap) n xs W) (hn : 0 < n) : Row R e 1 (.slice o (n - 1) cap) (n - 1) xs.dropLast W := by
  obtain ⟨⟨hl, ho⟩, hr⟩ := h
  rcases ho with ⟨h0, rfl⟩ | ⟨g, cap', cur, hv, hb, hg, h1, h2, h3, h4⟩
  · omega
  · cases hv
    refine ⟨⟨by simp; omega, .inr ⟨g, cap, cur, rfl, hb, hg, by omega, h2, h3, ?_⟩⟩, fun g' hg' => hr g' hg'⟩
    rw [← h4, List.dropLast_eq_take, List.take_take]
    congr 1
    have hs : cur.toList.length = cap := by simpa using h3
    simp only [List.length_take, hs]; omega
theorem grown_refl (w : World) (o : Option Nat) : w.grownBy w o := ⟨rfl, rfl, rfl, Nat.le_refl _, fun _ _ _ => rfl⟩
theorem Tk.cellsI_snoc (ns : List Nat) (n : Nat) : Tk.cellsI (ns ++ [n]) = Tk.cellsI ns ++ [.int .i64 (n : Int)] := by simp [Tk.cellsI]
theorem Tk.cellsI_pop (ns : List Nat) : Tk.cellsI ns.dropLast = (Tk.cellsI ns).dropLast := by simp [Tk.cellsI]

set_option maxHeartbeats 4000000 in
theorem tend_any (Z : Nat → Prop) (b : Nat) (st : Tk.St) (cu : Nat) (bg : Bool) (w : World) (h : Tk.Rdr Z b st cu bg w) (hl : st.out.length ≤ 1000000) (hwl : st.words.length ≤ 1000000) :
    Calls Try.prog 30 #[.pointer (some ⟨b, 0, none⟩)] w fun e w' => e = .returned (.tuple #[]) ∧ Tk.Rdr Z b st.endE cu false w' ∧ Keep Z w w' := by
  obtain ⟨out, line, blank, words, opens⟩ := st
  obtain ⟨Fz, vo, vw, vp, us, hc, hr⟩ := h
  simp only at hc hl hwl
  obtain ⟨i0, hi, hz0, hz1, hz2⟩ := info_parts info_tEntry
  obtain ⟨o, cap, rfl⟩ := hr.rw.form
  obtain ⟨o', cap', rfl⟩ := hr.ro.form
  simp only at hc hr
  have c0 := cells_of hc 0 _ rfl
  have c1 := cells_of hc 1 _ rfl
  have c2 := cells_of hc 2 _ rfl
  have c3 := cells_of hc 3 _ rfl
  have c5 := cells_of hc 5 _ rfl
  have hz := frozen_of hc
  have hb := hr.bl
  have HR := Lib.hid hr
  have HC := Lib.hid hc
  have HI := Lib.hid hi
  have HZ0 := Lib.hid hz0
  have HZ1 := Lib.hid hz1
  have HZ2 := Lib.hid hz2
  clear hr hc hi hz0 hz1 hz2
  by_cases hk : words = []
  · have HK := Lib.hid hk
    have hk0 : ¬ (0 < (words.length : Int)) := by rw [hk]; simp
    clear hk
    refine (callsIn_wide (n := 0)).1 ?_
    refine callsIn_of_wp Try.func30 rfl trivial ?_ rfl
    simp only [Try.ntmps30, List.size_toArray, List.length_cons, List.length_nil, Nat.reduceAdd, Nat.reduceSub, Array.replicate_succ, Array.replicate_zero, List.push_toArray, List.append_toArray, List.nil_append, List.cons_append]
    gi_wp2_with fail
    go_end0
    refine ⟨rfl, ⟨Fz, .slice o' out.length cap', .slice none 0 0, vp, us, ?_, ?_⟩, ((((Keep.refl _ _).setCell HR.out.bz _).setCell HR.out.bz _).setCell HR.out.bz _).setCell HR.out.bz _⟩
    · exact block_set (block_set (block_set (block_set HC.out 1 (.int .i64 0)) 2 (.bool false)) 3 (.slice none 0 0)) 5 (.bool false)
    · unfold Tk.St.endE
      simp only [HK.out, if_true]
      have := ((((HR.out.dropW.set 1 (.int .i64 0)).set 2 (.bool false)).set 3 (.slice none 0 0)).set 5 (.bool false)).line 0 false
      exact this
  · have hk0 : 0 < (words.length : Int) := by have := List.length_pos_iff.2 hk; omega
    have HK := Lib.hid hk
    clear hk
    refine (callsIn_wide (n := 0)).1 ?_
    refine callsIn_of_wp Try.func30 rfl trivial ?_ rfl
    simp only [Try.ntmps30, List.size_toArray, List.length_cons, List.length_nil, Nat.reduceAdd, Nat.reduceSub, Array.replicate_succ, Array.replicate_zero, List.push_toArray, List.append_toArray, List.nil_append, List.cons_append]
    gi_wp2_with fail
    refine drawnH [4, 8, 9, 10] (fun w' => w'.cell? ⟨b, 0, none⟩ = some (.slice o' out.length cap') ∧ w'.cell? ⟨b, 1, none⟩ = some (.int .i64 line) ∧ w'.cell? ⟨b, 2, none⟩ = some (.bool blank) ∧ w'.cell? ⟨b, 3, none⟩ = some (.slice o words.length cap)) 14 rfl (by kernel_rfl) ?_
    intro w' hw'
    obtain ⟨HC2, HR2, HK2⟩ : Hid (w'.heap[b]? = _) ∧ Hid (Tk.Rest _ _ _ _ _ _ _ _ _ _ w') ∧ Hid (Keep Z w w') := by
      subst hw'; exact ⟨HC, Lib.hid HR.out.drew, Lib.hid (Keep.refl _ _).drew⟩
    clear hw'
    have hS : w'.cell? ⟨b, 0, none⟩ = some (.slice o' out.length cap') ∧ w'.cell? ⟨b, 1, none⟩ = some (.int .i64 line) ∧ w'.cell? ⟨b, 2, none⟩ = some (.bool blank) ∧ w'.cell? ⟨b, 3, none⟩ = some (.slice o words.length cap) := ⟨cells_of HC2.out 0 _ rfl, cells_of HC2.out 1 _ rfl, cells_of HC2.out 2 _ rfl, cells_of HC2.out 3 _ rfl⟩
    refine takeP 0 (v := ?qv0) (fun _ => trivial) (by rfl) (by kernel_rfl) (.inl ⟨by kernel_rfl, fun w1 _ => ?qy0⟩) ?_
    case qy0 => (go_simp; try first | rfl | (rw [if_pos (by omega)]) | (rw [if_neg (by omega)]) | (rw [if_neg (by simp; omega)]) | (split <;> first | (exfalso; omega) | rfl))
    refine takeP 1 (v := ?qv1) (fun _ => trivial) (by rfl) (by kernel_rfl) (.inl ⟨by kernel_rfl, fun w1 _ => ?qy1⟩) ?_
    case qy1 => (go_simp; try first | rfl | (rw [if_pos (by omega)]) | (rw [if_neg (by omega)]) | (rw [if_neg (by simp; omega)]) | (split <;> first | (exfalso; omega) | rfl))
    refine takeP 2 (v := ?qv2) (fun _ => trivial) (by rfl) (by kernel_rfl) (.inl ⟨by kernel_rfl, fun w1 _ => ?qy2⟩) ?_
    case qy2 => (go_simp; try first | rfl | (rw [if_pos (by omega)]) | (rw [if_neg (by omega)]) | (rw [if_neg (by simp; omega)]) | (split <;> first | (exfalso; omega) | rfl))
    refine takeP 3 (v := ?qv3) (fun _ => trivial) (by rfl) (by kernel_rfl) (.inl ⟨by kernel_rfl, fun w1 _ => ?qy3⟩) ?_
    case qy3 => (go_simp; try first | rfl | (rw [if_pos (by omega)]) | (rw [if_neg (by omega)]) | (rw [if_neg (by simp; omega)]) | (split <;> first | (exfalso; omega) | rfl))
    refine takeP 5 (v := ?qv5) (fun _ => trivial) (by rfl) (by kernel_rfl) (.inl ⟨by kernel_rfl, fun w1 _ => ?qy5⟩) ?_
    case qy5 => (go_simp; try first | rfl | (rw [if_pos (by omega)]) | (rw [if_neg (by omega)]) | (rw [if_neg (by simp; omega)]) | (split <;> first | (exfalso; omega) | rfl))
    refine takeP 6 (v := ?qv6) (fun _ => trivial) (by rfl) (by kernel_rfl) (.inl ⟨by kernel_rfl, fun w1 _ => ?qy6⟩) ?_
    case qy6 => (go_simp; try first | rfl | (rw [if_pos (by omega)]) | (rw [if_neg (by omega)]) | (rw [if_neg (by simp; omega)]) | (split <;> first | (exfalso; omega) | rfl))
    refine takeP 7 (v := ?qv7) (fun _ => trivial) (by rfl) (by kernel_rfl) (.inl ⟨by kernel_rfl, fun w1 _ => ?qy7⟩) ?_
    case qy7 => (go_simp; try first | rfl | (rw [if_pos (by omega)]) | (rw [if_neg (by omega)]) | (rw [if_neg (by simp; omega)]) | (split <;> first | (exfalso; omega) | rfl))
    refine takeH 4 (v := ?qv4) (fun _ => trivial) (by rfl) (by kernel_rfl) hS (.inl ⟨by kernel_rfl, fun w1 ⟨a1, a2, a3, a4⟩ => ?qy4⟩) ?_
    case qy4 => (go_simp; try first | rfl | (rw [if_pos (by omega)]) | (rw [if_neg (by omega)]) | (rw [if_neg (by simp; omega)]) | (split <;> first | (exfalso; omega) | rfl))
    refine takeH 8 (v := ?qv8) (fun _ => trivial) (by rfl) (by kernel_rfl) hS (.inl ⟨by kernel_rfl, fun w1 ⟨a1, a2, a3, a4⟩ => ?qy8⟩) ?_
    case qy8 => (go_simp; try first | rfl | (rw [if_pos (by omega)]) | (rw [if_neg (by omega)]) | (rw [if_neg (by simp; omega)]) | (split <;> first | (exfalso; omega) | rfl))
    refine oneH 9 (by rfl) (by kernel_rfl) (fun K hK => ?_)
    gi_wp2_with fail
    have HR3 := Lib.hid (HR2.out.alloc (.cells #[.int .i64 line, .bool blank, .slice o words.length cap] 32))
    have HK3 := Lib.hid (HR2.out.keepAlloc HK2.out (.cells #[.int .i64 line, .bool blank, .slice o words.length cap] 32))
    have HC3 := Lib.hid ((Below.heap_alloc w' (.cells #[.int .i64 line, .bool blank, .slice o words.length cap] 32) b HR2.out.bl).trans HC2.out)
    have HN3 := Lib.hid (World.alloc_heap_new w' (.cells #[.int .i64 line, .bool blank, .slice o words.length cap] 32))
    obtain ⟨W3, hW3⟩ : ∃ W3, w'.alloc (.cells #[.int .i64 line, .bool blank, .slice o words.length cap] 32) = W3 := ⟨_, rfl⟩
    rw [hW3] at HR3 HK3 HC3 HN3
    refine hK _ _ (fun _ => by rw [hW3]; exact ⟨cells_of HC3.out 0 _ rfl, cells_of HC3.out 1 _ rfl, cells_of HC3.out 2 _ rfl, cells_of HC3.out 3 _ rfl⟩) ?_
    clear hK K
    rw [hW3]
    clear hW3 hS HC2 HR2 HK2
    refine oneH 10 (by rfl) (by kernel_rfl) (fun K hK => ?_)
    gi_wp2_with (gi_at_builtin; refine append_in (fun g => ((¬ Z g ∧ g ≠ b ∧ ¬ Fz g) ∧ vp.ownBlock ≠ some g) ∧ (Value.slice o words.length cap).ownBlock ≠ some g) rfl _ _ 23 rfl 32 i0 (.agg #[.int .i64 0, .bool false, .slice none 0 0]) 3 40 Try.underlying23 HI.out HZ0.out HZ1.out HZ2.out rfl (by decide) _ out.length (Tk.cellsE out us) (by rfl) HR3.out.ro' ⟨w'.heap.size, 0, none⟩ 1 1 [.int .i64 line, .bool blank, .slice o words.length cap] (by rfl) (by rfl) (fun j u hj => by match j, hj with | 0, hj => cases hj; exact cells_of HN3.out 0 _ rfl | 1, hj => cases hj; exact cells_of HN3.out 1 _ rfl | 2, hj => cases hj; exact cells_of HN3.out 2 _ rfl | j + 3, hj => simp at hj) (by intro u hu; simp at hu; rcases hu with rfl | rfl | rfl <;> rfl) (by unfold maxLen; omega) (by omega) ⟨HR3.out.fresh.1.1, HR3.out.fresh.2⟩ ?_; intro v2 w2 hrow2 hgr2 _)
    obtain ⟨o2, cap2, rfl⟩ := hrow2.form
    have HR4 := Lib.hid (HR3.out.growO ⟨line, blank, words⟩ rfl hgr2 hrow2)
    have HC4 := Lib.hid ((hgr2.block b HR3.out.bl (fun e => (HR3.out.ro.2 b e.symm).1.2.1 rfl)).trans HC3.out)
    have HK4 := Lib.hid (HK3.out.grown hgr2 (HR3.out.ro.keepsOthers hgr2) HR3.out.zl (fun k hk => (HR3.out.ro.2 k hk).1.1))
    have c0' := cells_of HC4.out 0 _ rfl
    have c1' := cells_of HC4.out 1 _ rfl
    have c2' := cells_of HC4.out 2 _ rfl
    have c3' := cells_of HC4.out 3 _ rfl
    have c5' := cells_of HC4.out 5 _ rfl
    have hz' := frozen_of HC4.out
    have hb' := HR4.out.bl
    refine hK _ _ (fun _ => ⟨c0', c1', c2', c3'⟩) ?_
    clear hK K HR3 HC3 HN3 HK3 hrow2 hgr2
    refine takeP 11 (v := ?qv11) (fun _ => trivial) (by rfl) (by kernel_rfl) (.inl ⟨by kernel_rfl, fun w1 _ => ?qy11⟩) ?_
    case qy11 => (go_simp; try first | rfl | (rw [if_pos (by omega)]) | (rw [if_neg (by omega)]) | (rw [if_neg (by simp; omega)]) | (split <;> first | (exfalso; omega) | rfl))
    refine takeP 12 (v := ?qv12) (fun _ => trivial) (by rfl) (by kernel_rfl) (.inl ⟨by kernel_rfl, fun w1 _ => ?qy12⟩) ?_
    case qy12 => (go_simp; try first | rfl | (rw [if_pos (by omega)]) | (rw [if_neg (by omega)]) | (rw [if_neg (by simp; omega)]) | (split <;> first | (exfalso; omega) | rfl))
    refine oneH 13 (by rfl) (by kernel_rfl) (fun K hK => ?_)
    gi_wp2_with fail
    refine hK _ _ (fun h => absurd h (by decide)) ?_
    clear hK K
    refine doneH (by kernel_rfl) ?_
    gi_wp2_with fail
    go_end0
    refine ⟨rfl, ⟨fun g => Fz g ∨ (Value.slice o words.length cap).ownBlock = some g, .slice o2 (out.length + 1) cap2, .slice none 0 0, vp, us ++ [.slice o words.length cap], ?_, ?_⟩, (((((HK4.out.setCell HR4.out.bz _).setCell HR4.out.bz _).setCell HR4.out.bz _).setCell HR4.out.bz _).setCell HR4.out.bz _)⟩
    rotate_left
    · unfold Tk.St.endE
      simp only [if_neg HK.out]
      have := (((((HR4.out.set 0 (.slice o2 (out.length + 1) cap2)).set 1 (.int .i64 0)).set 2 (.bool false)).set 3 (.slice none 0 0)).set 5 (.bool false)).line 0 false
      exact this
    · exact block_set (block_set (block_set (block_set (block_set HC4.out 0 (.slice o2 (out.length + 1) cap2)) 1 (.int .i64 0)) 2 (.bool false)) 3 (.slice none 0 0)) 5 (.bool false)

set_option maxHeartbeats 4000000 in
theorem topen_any (Z : Nat → Prop) (b : Nat) (st : Tk.St) (cu : Nat) (bg : Bool) (w : World) (h : Tk.Rdr Z b st cu bg w) (hl : st.opens.length < 8) :
    Calls Try.prog 52 #[.pointer (some ⟨b, 0, none⟩), .int .u8 40] w fun e w' => e = .returned (.int .i64 0) ∧ Tk.Rdr Z b (st.open cu) cu bg w' ∧ Keep Z w w' := by
  obtain ⟨out, line, blank, words, opens⟩ := st
  obtain ⟨Fz, vo, vw, vp, us, hc, hr⟩ := h
  simp only at hc hl
  obtain ⟨i0, hi, hz0, hz1, hz2⟩ := info_parts info_int
  obtain ⟨o, cap, rfl⟩ := hr.rp.form
  simp only at hc hr
  have c4 := cells_of hc 4 _ rfl
  have c6 := cells_of hc 6 _ rfl
  have hz := frozen_of hc
  have hb := hr.bl
  have HR := Lib.hid hr
  have HC := Lib.hid hc
  have HI := Lib.hid hi
  have HZ0 := Lib.hid hz0
  have HZ1 := Lib.hid hz1
  have HZ2 := Lib.hid hz2
  have hne : ((opens.length : Int) == 8) = false := by rw [beq_eq_false_iff_ne]; omega
  clear hr hc hi hz0 hz1 hz2
  refine (callsIn_wide (n := 0)).1 ?_
  refine callsIn_of_wp Try.func52 rfl trivial ?_ rfl
  simp only [Try.ntmps52, List.size_toArray, List.length_cons, List.length_nil, Nat.reduceAdd, Nat.reduceSub, Array.replicate_succ, Array.replicate_zero, List.push_toArray, List.append_toArray, List.nil_append, List.cons_append]
  gi_wp2_with fail
  refine drawnH [4, 8, 9, 10] (fun w' => w'.cell? ⟨b, 4, none⟩ = some (.int .i64 cu) ∧ w'.cell? ⟨b, 6, none⟩ = some (.slice o opens.length cap)) 14 rfl (by kernel_rfl) ?_
  intro w' hw'
  obtain ⟨HC2, HR2, HK2⟩ : Hid (w'.heap[b]? = _) ∧ Hid (Tk.Rest _ _ _ _ _ _ _ _ _ _ w') ∧ Hid (Keep Z w w') := by
    subst hw'; exact ⟨HC, Lib.hid HR.out.drew, Lib.hid (Keep.refl _ _).drew⟩
  clear hw'
  have hS : w'.cell? ⟨b, 4, none⟩ = some (.int .i64 cu) ∧ w'.cell? ⟨b, 6, none⟩ = some (.slice o opens.length cap) := ⟨cells_of HC2.out 4 _ rfl, cells_of HC2.out 6 _ rfl⟩
  refine takeP 0 (v := ?qv0) (fun _ => trivial) (by rfl) (by kernel_rfl) (.inl ⟨by kernel_rfl, fun w1 _ => ?qy0⟩) ?_
  case qy0 => (go_simp; try first | rfl | (rw [if_pos (by omega)]) | (rw [if_neg (by omega)]) | (rw [if_neg (by simp; omega)]) | (split <;> first | (exfalso; omega) | rfl))
  refine takeP 1 (v := ?qv1) (fun _ => trivial) (by rfl) (by kernel_rfl) (.inl ⟨by kernel_rfl, fun w1 _ => ?qy1⟩) ?_
  case qy1 => (go_simp; try first | rfl | (rw [if_pos (by omega)]) | (rw [if_neg (by omega)]) | (rw [if_neg (by simp; omega)]) | (split <;> first | (exfalso; omega) | rfl))
  refine takeP 2 (v := ?qv2) (fun _ => trivial) (by rfl) (by kernel_rfl) (.inl ⟨by kernel_rfl, fun w1 _ => ?qy2⟩) ?_
  case qy2 => (go_simp; try first | rfl | (rw [if_pos (by omega)]) | (rw [if_neg (by omega)]) | (rw [if_neg (by simp; omega)]) | (split <;> first | (exfalso; omega) | rfl))
  refine takeP 3 (v := ?qv3) (fun _ => trivial) (by rfl) (by kernel_rfl) (.inl ⟨by kernel_rfl, fun w1 _ => ?qy3⟩) ?_
  case qy3 => (go_simp; try first | rfl | (rw [if_pos (by omega)]) | (rw [if_neg (by omega)]) | (rw [if_neg (by simp; omega)]) | (split <;> first | (exfalso; omega) | rfl))
  refine takeP 5 (v := ?qv5) (fun _ => trivial) (by rfl) (by kernel_rfl) (.inl ⟨by kernel_rfl, fun w1 _ => ?qy5⟩) ?_
  case qy5 => (go_simp; try first | rfl | (rw [if_pos (by omega)]) | (rw [if_neg (by omega)]) | (rw [if_neg (by simp; omega)]) | (split <;> first | (exfalso; omega) | rfl))
  refine takeP 6 (v := ?qv6) (fun _ => trivial) (by rfl) (by kernel_rfl) (.inl ⟨by kernel_rfl, fun w1 _ => ?qy6⟩) ?_
  case qy6 => (go_simp; try first | rfl | (rw [if_pos (by omega)]) | (rw [if_neg (by omega)]) | (rw [if_neg (by simp; omega)]) | (split <;> first | (exfalso; omega) | rfl))
  refine takeP 7 (v := ?qv7) (fun _ => trivial) (by rfl) (by kernel_rfl) (.inl ⟨by kernel_rfl, fun w1 _ => ?qy7⟩) ?_
  case qy7 => (go_simp; try first | rfl | (rw [if_pos (by omega)]) | (rw [if_neg (by omega)]) | (rw [if_neg (by simp; omega)]) | (split <;> first | (exfalso; omega) | rfl))
  refine takeH 4 (v := ?qv4) (fun _ => trivial) (by rfl) (by kernel_rfl) hS (.inl ⟨by kernel_rfl, fun w1 ⟨a1, a2⟩ => ?qy4⟩) ?_
  case qy4 => (go_simp; try first | rfl | (rw [if_pos (by omega)]) | (rw [if_neg (by omega)]) | (rw [if_neg (by simp; omega)]) | (split <;> first | (exfalso; omega) | rfl))
  refine takeH 8 (v := ?qv8) (fun _ => trivial) (by rfl) (by kernel_rfl) hS (.inl ⟨by kernel_rfl, fun w1 ⟨a1, a2⟩ => ?qy8⟩) ?_
  case qy8 => (go_simp; try first | rfl | (rw [if_pos (by omega)]) | (rw [if_neg (by omega)]) | (rw [if_neg (by simp; omega)]) | (split <;> first | (exfalso; omega) | rfl))
  refine oneH 9 (by rfl) (by kernel_rfl) (fun K hK => ?_)
  gi_wp2_with fail
  have HR3 := Lib.hid (HR2.out.alloc (.cells #[.int .i64 cu] 3))
  have HK3 := Lib.hid (HR2.out.keepAlloc HK2.out (.cells #[.int .i64 cu] 3))
  have HC3 := Lib.hid ((Below.heap_alloc w' (.cells #[.int .i64 cu] 3) b HR2.out.bl).trans HC2.out)
  have HN3 := Lib.hid (World.alloc_heap_new w' (.cells #[.int .i64 cu] 3))
  obtain ⟨W3, hW3⟩ : ∃ W3, w'.alloc (.cells #[.int .i64 cu] 3) = W3 := ⟨_, rfl⟩
  rw [hW3] at HR3 HK3 HC3 HN3
  refine hK _ _ (fun _ => by rw [hW3]; exact ⟨cells_of HC3.out 4 _ rfl, cells_of HC3.out 6 _ rfl⟩) ?_
  clear hK K
  rw [hW3]
  clear hW3 hS HC2 HR2 HK2
  refine oneH 10 (by rfl) (by kernel_rfl) (fun K hK => ?_)
  gi_wp2_with (gi_at_builtin; refine append_in (fun g => (¬ Z g ∧ g ≠ b ∧ ¬ Fz g) ∧ vo.ownBlock ≠ some g ∧ vw.ownBlock ≠ some g) rfl _ _ 64 rfl 3 i0 (.int .i64 0) 1 8 Try.underlying64 HI.out HZ0.out HZ1.out HZ2.out rfl (by decide) _ opens.length (Tk.cellsI opens) (by rfl) HR3.out.rp' ⟨w'.heap.size, 0, none⟩ 1 1 [.int .i64 cu] (by rfl) (by rfl) (fun j u hj => by match j, hj with | 0, hj => cases hj; exact cells_of HN3.out 0 _ rfl | j + 1, hj => simp at hj) (by intro u hu; simp at hu; rcases hu with rfl; rfl) (by unfold maxLen; omega) (by omega) ⟨HR3.out.fresh.1.1.1, HR3.out.fresh.1.2, HR3.out.fresh.2⟩ ?_; intro v2 w2 hrow2 hgr2 _)
  obtain ⟨o2, cap2, rfl⟩ := hrow2.form
  have HR4 := Lib.hid (HR3.out.growP (ns := opens ++ [cu]) hgr2 (by rw [Tk.cellsI_snoc]; simpa using hrow2))
  have HC4 := Lib.hid ((hgr2.block b HR3.out.bl (fun e => (HR3.out.rp.2 b e.symm).2.1 rfl)).trans HC3.out)
  have HK4 := Lib.hid (HK3.out.grown hgr2 (HR3.out.rp.keepsOthers hgr2) HR3.out.zl (fun k hk => (HR3.out.rp.2 k hk).1))
  have c4' := cells_of HC4.out 4 _ rfl
  have c6' := cells_of HC4.out 6 _ rfl
  have hz' := frozen_of HC4.out
  have hb' := HR4.out.bl
  refine hK _ _ (fun _ => ⟨c4', c6'⟩) ?_
  clear hK K HR3 HC3 HN3 HK3 hrow2 hgr2
  refine takeP 11 (v := ?qv11) (fun _ => trivial) (by rfl) (by kernel_rfl) (.inl ⟨by kernel_rfl, fun w1 _ => ?qy11⟩) ?_
  case qy11 => (go_simp; try first | rfl | (rw [if_pos (by omega)]) | (rw [if_neg (by omega)]) | (rw [if_neg (by simp; omega)]) | (split <;> first | (exfalso; omega) | rfl))
  refine takeP 12 (v := ?qv12) (fun _ => trivial) (by rfl) (by kernel_rfl) (.inl ⟨by kernel_rfl, fun w1 _ => ?qy12⟩) ?_
  case qy12 => (go_simp; try first | rfl | (rw [if_pos (by omega)]) | (rw [if_neg (by omega)]) | (rw [if_neg (by simp; omega)]) | (split <;> first | (exfalso; omega) | rfl))
  refine oneH 13 (by rfl) (by kernel_rfl) (fun K hK => ?_)
  gi_wp2_with fail
  refine hK _ _ (fun h => absurd h (by decide)) ?_
  clear hK K
  refine doneH (by kernel_rfl) ?_
  gi_wp2_with fail
  go_ret
  exact ⟨rfl, ⟨Fz, vo, vw, .slice o2 (opens.length + 1) cap2, us, block_set HC4.out 6 _, HR4.out.set 6 _⟩, HK4.out.setCell HR4.out.bz _⟩

set_option maxHeartbeats 4000000 in
theorem tdeep_any (Z : Nat → Prop) (b : Nat) (st : Tk.St) (cu : Nat) (bg : Bool) (w : World) (h : Tk.Rdr Z b st cu bg w) (hl : st.opens.length = 8) :
    Calls Try.prog 52 #[.pointer (some ⟨b, 0, none⟩), .int .u8 40] w fun e w' => e = .returned (.int .i64 10) ∧ w = w' := by
  obtain ⟨Fz, vo, vw, vp, us, hc, hr⟩ := h
  obtain ⟨o, cap, rfl⟩ := hr.rp.form
  rw [hl] at hc
  have c6 := cells_of hc 6 _ rfl
  have hz := frozen_of hc
  clear hr hc hl
  go_enter Try.func52, Try.ntmps52
  go_wp2_with fail
  go_ret
  exact ⟨rfl, rfl⟩
set_option maxHeartbeats 4000000 in
theorem tnone_any (Z : Nat → Prop) (b : Nat) (st : Tk.St) (cu : Nat) (bg : Bool) (w : World) (h : Tk.Rdr Z b st cu bg w) (hl : st.opens = []) :
    Calls Try.prog 52 #[.pointer (some ⟨b, 0, none⟩), .int .u8 41] w fun e w' => e = .returned (.int .i64 2) ∧ w = w' := by
  obtain ⟨Fz, vo, vw, vp, us, hc, hr⟩ := h
  obtain ⟨o, cap, rfl⟩ := hr.rp.form
  rw [hl] at hc
  have c6 := cells_of hc 6 _ rfl
  have hz := frozen_of hc
  clear hr hc hl
  go_enter Try.func52, Try.ntmps52
  go_wp2_with fail
  go_ret
  exact ⟨rfl, rfl⟩
set_option maxHeartbeats 4000000 in
theorem tclose_any (Z : Nat → Prop) (b : Nat) (st : Tk.St) (cu : Nat) (bg : Bool) (w : World) (h : Tk.Rdr Z b st cu bg w) (hl : st.opens ≠ []) (hl8 : st.opens.length ≤ 8) :
    Calls Try.prog 52 #[.pointer (some ⟨b, 0, none⟩), .int .u8 41] w fun e w' => e = .returned (.int .i64 0) ∧ Tk.Rdr Z b st.close cu bg w' ∧ Keep Z w w' := by
  obtain ⟨out, line, blank, words, opens⟩ := st
  obtain ⟨Fz, vo, vw, vp, us, hc, hr⟩ := h
  simp only at hc hl hl8
  obtain ⟨o, cap, rfl⟩ := hr.rp.form
  simp only at hc hr
  have hpos := List.length_pos_iff.2 hl
  have hpop := Row.pop hr.rp' hpos
  have hcap : opens.length ≤ cap := by
    obtain ⟨⟨_, ho⟩, _⟩ := hr.rp
    rcases ho with ⟨_, h0⟩ | ⟨g, cap', cur, hv, _, _, h1, _⟩
    · simp only at h0; omega
    · cases hv; exact h1
  have hcap' : (opens.length : Int) ≤ cap := by omega
  have hpos' : (0 : Int) < opens.length := by omega
  have hl8' : (opens.length : Int) ≤ 8 := by omega
  have hw1 : IntKind.i64.wrap ((opens.length : Int) - 1) = opens.length - 1 := IntWalk.i64_in _ (by omega)
  have hne : ((opens.length : Int) == 0) = false := by rw [beq_eq_false_iff_ne]; omega
  have c6 := cells_of hc 6 _ rfl
  have hz := frozen_of hc
  have hb := hr.bl
  have HR := Lib.hid hr
  have HC := Lib.hid hc
  have HPOP := Lib.hid hpop
  clear hr hc hpop hl hpos
  refine (callsIn_wide (n := 0)).1 ?_
  refine callsIn_of_wp Try.func52 rfl trivial ?_ rfl
  simp only [Try.ntmps52, List.size_toArray, List.length_cons, List.length_nil, Nat.reduceAdd, Nat.reduceSub, Array.replicate_succ, Array.replicate_zero, List.push_toArray, List.append_toArray, List.nil_append, List.cons_append]
  gi_wp2_with fail
  refine drawnH [4, 8, 9, 10, 11] (fun w' => w'.cell? ⟨b, 6, none⟩ = some (.slice o opens.length cap)) 15 rfl (by kernel_rfl) ?_
  intro w' hw'
  obtain ⟨HC2, HR2, HK2, HP2⟩ : Hid (w'.heap[b]? = _) ∧ Hid (Tk.Rest _ _ _ _ _ _ _ _ _ _ w') ∧ Hid (Keep Z w w') ∧ Hid (Row _ _ _ _ _ _ w') := by
    subst hw'; exact ⟨HC, Lib.hid HR.out.drew, Lib.hid (Keep.refl _ _).drew, Lib.hid HPOP.out.drew⟩
  clear hw'
  have hS : w'.cell? ⟨b, 6, none⟩ = some (.slice o opens.length cap) := cells_of HC2.out 6 _ rfl
  refine takeP 0 (v := ?qv0) (fun _ => trivial) (by rfl) (by kernel_rfl) (.inl ⟨by kernel_rfl, fun w1 _ => ?qy0⟩) ?_
  case qy0 => (go_simp; try first | rfl | (rw [if_pos (by omega)]) | (rw [if_neg (by omega)]) | (rw [if_neg (by simp; omega)]) | (split <;> first | (exfalso; omega) | rfl))
  refine takeP 1 (v := ?qv1) (fun _ => trivial) (by rfl) (by kernel_rfl) (.inl ⟨by kernel_rfl, fun w1 _ => ?qy1⟩) ?_
  case qy1 => (go_simp; try first | rfl | (rw [if_pos (by omega)]) | (rw [if_neg (by omega)]) | (rw [if_neg (by simp; omega)]) | (split <;> first | (exfalso; omega) | rfl))
  refine takeP 2 (v := ?qv2) (fun _ => trivial) (by rfl) (by kernel_rfl) (.inl ⟨by kernel_rfl, fun w1 _ => ?qy2⟩) ?_
  case qy2 => (go_simp; try first | rfl | (rw [if_pos (by omega)]) | (rw [if_neg (by omega)]) | (rw [if_neg (by simp; omega)]) | (split <;> first | (exfalso; omega) | rfl))
  refine takeP 3 (v := ?qv3) (fun _ => trivial) (by rfl) (by kernel_rfl) (.inl ⟨by kernel_rfl, fun w1 _ => ?qy3⟩) ?_
  case qy3 => (go_simp; try first | rfl | (rw [if_pos (by omega)]) | (rw [if_neg (by omega)]) | (rw [if_neg (by simp; omega)]) | (split <;> first | (exfalso; omega) | rfl))
  refine takeP 5 (v := ?qv5) (fun _ => trivial) (by rfl) (by kernel_rfl) (.inl ⟨by kernel_rfl, fun w1 _ => ?qy5⟩) ?_
  case qy5 => (go_simp; try first | rfl | (rw [if_pos (by omega)]) | (rw [if_neg (by omega)]) | (rw [if_neg (by simp; omega)]) | (split <;> first | (exfalso; omega) | rfl))
  refine takeP 6 (v := ?qv6) (fun _ => trivial) (by rfl) (by kernel_rfl) (.inl ⟨by kernel_rfl, fun w1 _ => ?qy6⟩) ?_
  case qy6 => (go_simp; try first | rfl | (rw [if_pos (by omega)]) | (rw [if_neg (by omega)]) | (rw [if_neg (by simp; omega)]) | (split <;> first | (exfalso; omega) | rfl))
  refine takeP 7 (v := ?qv7) (fun _ => trivial) (by rfl) (by kernel_rfl) (.inl ⟨by kernel_rfl, fun w1 _ => ?qy7⟩) ?_
  case qy7 => (go_simp; try first | rfl | (rw [if_pos (by omega)]) | (rw [if_neg (by omega)]) | (rw [if_neg (by simp; omega)]) | (split <;> first | (exfalso; omega) | rfl))
  refine takeH 4 (v := ?qv4) (fun _ => trivial) (by rfl) (by kernel_rfl) hS (.inl ⟨by kernel_rfl, fun w1 a1 => ?qy4⟩) ?_
  case qy4 => (go_simp; try first | rfl | (rw [if_pos (by omega)]) | (rw [if_neg (by omega)]) | (rw [if_neg (by simp; omega)]) | (split <;> first | (exfalso; omega) | rfl))
  refine takeH 8 (v := ?qv8) (fun _ => trivial) (by rfl) (by kernel_rfl) hS (.inl ⟨by kernel_rfl, fun w1 a1 => ?qy8⟩) ?_
  case qy8 => (go_simp; try first | rfl | (rw [if_pos (by omega)]) | (rw [if_neg (by omega)]) | (rw [if_neg (by simp; omega)]) | (split <;> first | (exfalso; omega) | rfl))
  refine takeH 9 (v := ?qv9) (fun _ => trivial) (by rfl) (by kernel_rfl) hS (.inl ⟨by kernel_rfl, fun w1 a1 => ?qy9⟩) ?_
  case qy9 => (go_simp; try first | rfl | (rw [if_pos (by omega)]) | (rw [if_neg (by omega)]) | (rw [if_neg (by simp; omega)]) | (split <;> first | (exfalso; omega) | rfl))
  refine takeH 10 (v := ?qv10) (fun _ => trivial) (by rfl) (by kernel_rfl) hS (.inl ⟨by kernel_rfl, fun w1 a1 => ?qy10⟩) ?_
  case qy10 => (go_simp; try first | rfl | (rw [if_pos (by omega)]) | (rw [if_neg (by omega)]) | (rw [if_neg (by simp; omega)]) | (split <;> first | (exfalso; omega) | rfl))
  refine takeH 11 (v := ?qv11) (fun _ => trivial) (by rfl) (by kernel_rfl) hS (.inl ⟨by kernel_rfl, fun w1 a1 => ?qy11⟩) ?_
  case qy11 => (go_simp; try first | rfl | (rw [if_pos (by omega)]) | (rw [if_neg (by omega)]) | (rw [if_neg (by simp; omega)]) | (split <;> first | (exfalso; omega) | rfl))
  refine takeP 12 (v := ?qv12) (fun _ => trivial) (by rfl) (by kernel_rfl) (.inl ⟨by kernel_rfl, fun w1 _ => ?qy12⟩) ?_
  case qy12 => (go_simp; try first | rfl | (rw [if_pos (by omega)]) | (rw [if_neg (by omega)]) | (rw [if_neg (by simp; omega)]) | (split <;> first | (exfalso; omega) | rfl))
  refine takeP 13 (v := ?qv13) (fun _ => trivial) (by rfl) (by kernel_rfl) (.inl ⟨by kernel_rfl, fun w1 _ => ?qy13⟩) ?_
  case qy13 => (go_simp; try first | rfl | (rw [if_pos (by omega)]) | (rw [if_neg (by omega)]) | (rw [if_neg (by simp; omega)]) | (split <;> first | (exfalso; omega) | rfl))
  have c6' := hS
  have hz' := frozen_of HC2.out
  have hb' := HR2.out.bl
  refine oneH 14 (by rfl) (by kernel_rfl) (fun K hK => ?_)
  gi_wp2_with fail
  refine hK _ _ (fun h => absurd h (by decide)) ?_
  clear hK K
  refine doneH (by kernel_rfl) ?_
  gi_wp2_with fail
  go_ret
  have HR4 := HR2.out.growP (ns := opens.dropLast) (grown_refl _ _) (by rw [Tk.cellsI_pop, List.length_dropLast]; exact HP2.out)
  exact ⟨rfl, ⟨Fz, vo, vw, .slice o (opens.length - 1) cap, us, block_set HC2.out 6 _, HR4.set 6 _⟩, HK2.out.setCell HR2.out.bz _⟩
end Go.Proofs.Yticljagcigiejaa
