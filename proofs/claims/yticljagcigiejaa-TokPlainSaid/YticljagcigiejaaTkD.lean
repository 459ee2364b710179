/- A reader takes a word. -/
import Derived.Test.YticljagcigiejaaTkC
namespace Go.Proofs.Yticljagcigiejaa
open Go.RowKit Go.Shelf
set_option maxRecDepth 100000

theorem cells_of {W : World} {b : Nat} {cs : Array Value} {t : TypeId} (h : W.heap[b]? = some (.cells cs t (0, 0))) : ∀ (j : Nat) (v : Value), cs[j]? = some v → W.cell? ⟨b, j, none⟩ = some v := fun j v hv => by
  rw [cell_of_row W b j _ _ _ h, hv]
theorem frozen_of {W : World} {b : Nat} {cs : Array Value} {t : TypeId} (h : W.heap[b]? = some (.cells cs t (0, 0))) (j : Nat) : W.frozen? ⟨b, j, none⟩ = false := by
  simp [World.frozen?, h]
theorem block_set {W : World} {b : Nat} {cs : Array Value} {t : TypeId} (h : W.heap[b]? = some (.cells cs t (0, 0))) (j : Nat) (u : Value) : (W.setCell ⟨b, j, none⟩ u).heap[b]? = some (.cells (cs.setIfInBounds j u) t (0, 0)) := by
  simp [World.setCell, Array.getElem?_modify, h]
theorem info_Word : (Try.prog.info? 37).map (fun i => (i.zero, i.size, i.bytes)) = some (some (.agg #[.string ⟨#[]⟩, .bool false]), 2, 24) := by kernel_rfl

theorem Tk.Rest.fresh {TE TW Z b Fz vo vw vp us st} {W : World} (h : Tk.Rest TE TW Z b Fz vo vw vp us st W) : (((¬ Z W.heap.size ∧ W.heap.size ≠ b ∧ ¬ Fz W.heap.size) ∧ vp.ownBlock ≠ some W.heap.size) ∧ vo.ownBlock ≠ some W.heap.size) ∧ vw.ownBlock ≠ some W.heap.size := by
  refine ⟨⟨⟨⟨fun e => ?_, fun e => ?_, fun e => ?_⟩, fun e => ?_⟩, fun e => ?_⟩, fun e => ?_⟩
  · have := h.zl _ e; omega
  · have := h.bl; omega
  · have := (h.fl _ e).2.2; omega
  · have := Tk.row_lt h.rp e; omega
  · have := Tk.row_lt h.ro e; omega
  · have := Tk.row_lt h.rw e; omega
theorem Tk.Rest.keepAlloc {TE TW Z b Fz vo vw vp us st} {W A : World} (h : Tk.Rest TE TW Z b Fz vo vw vp us st W) (hk : Keep Z A W) (o : Obj) : Keep Z A (W.alloc o) := hk.alloc h.zl o

set_option maxHeartbeats 4000000 in
theorem tput_any (Z : Nat → Prop) (b : Nat) (st : Tk.St) (cu : Nat) (bg : Bool) (x : Tk.Wd) (w : World) (h : Tk.Rdr Z b st cu bg w) (hl : st.words.length ≤ 1000000) :
    Calls Try.prog 55 #[.pointer (some ⟨b, 0, none⟩), .agg #[S x.1, .bool x.2]] w fun e w' => e = .returned (.tuple #[]) ∧ Tk.Rdr Z b (st.put x cu) cu bg w' ∧ Keep Z w w' := by
  obtain ⟨out, line, blank, words, opens⟩ := st
  obtain ⟨Fz, vo, vw, vp, us, hc, hr⟩ := h
  simp only at hc hl
  obtain ⟨i0, hi, hz0, hz1, hz2⟩ := info_parts info_Word
  obtain ⟨o, cap, rfl⟩ := hr.rw.form
  have c1 := cells_of hc 1 _ rfl
  have c3 := cells_of hc 3 _ rfl
  have c4 := cells_of hc 4 _ rfl
  have hz := frozen_of hc
  have hb := hr.bl
  simp only at c3
  have HR := Lib.hid hr
  have HC := Lib.hid hc
  have HI := Lib.hid hi
  have HZ0 := Lib.hid hz0
  have HZ1 := Lib.hid hz1
  have HZ2 := Lib.hid hz2
  have HOW := Lib.hid (show ∀ g, (Value.slice o words.length cap).ownBlock = some g → g < w.heap.size from fun g hg => Tk.row_lt hr.rw hg)
  clear hr hc hi hz0 hz1 hz2
  have hkk : words = [] ∨ words ≠ [] := by by_cases h : words = []; exact .inl h; exact .inr h
  rcases hkk with hk | hk
  · have HK := Lib.hid hk
    have hk0 : ((words.length : Int) == 0) = true := by rw [hk]; rfl
    have hk2 : (words.length : Int) ≤ 1000000 := by omega
    clear hk
    refine (callsIn_wide (n := 0)).1 ?_
    refine callsIn_of_wp Try.func55 rfl trivial ?_ rfl
    simp only [Try.ntmps55, List.size_toArray, List.length_cons, List.length_nil, Nat.reduceAdd, Nat.reduceSub, Array.replicate_succ, Array.replicate_zero, List.push_toArray, List.append_toArray, List.nil_append, List.cons_append]
    gi_wp2_with fail
    obtain ⟨W1, hW1, HC1, HR1, HB1, hsz, HK1⟩ : ∃ W1, (w.setCell ⟨b, 1, none⟩ (.int .i64 cu)).alloc (.cells #[S x.1, .bool x.2] 37) = W1 ∧ Hid (W1.heap[b]? = some (.cells #[vo, .int .i64 ((if words = [] then cu else line : Nat) : Int), .bool blank, .slice o words.length cap, .int .i64 cu, .bool bg, vp] 66 (0, 0))) ∧
        Hid (Tk.Rest 32 37 Z b Fz vo (.slice o words.length cap) vp us ⟨out, line, blank, words, opens⟩ W1) ∧ Hid (W1.heap[w.heap.size]? = some (.cells #[S x.1, .bool x.2] 37 (0, 0))) ∧ W1.heap.size = w.heap.size + 1 ∧ Hid (Keep Z w W1) := by
      refine ⟨_, rfl, Lib.hid ?_, Lib.hid ((HR.out.set 1 _).alloc _), Lib.hid ?_, by simp, Lib.hid ((HR.out.set 1 _).keepAlloc ((Keep.refl _ _).setCell HR.out.bz _) _)⟩
      · rw [if_pos HK.out, Below.heap_alloc _ _ _ (by simpa using hb), block_set HC.out]; rfl
      · have := World.alloc_heap_new (w.setCell ⟨b, 1, none⟩ (.int .i64 cu)) (.cells #[S x.1, .bool x.2] 37)
        rwa [World.size_setCell] at this
    rw [hW1]
    clear hW1 HK
    refine drawnH [5, 6, 7, 8] (fun w' => w'.cell? ⟨b, 3, none⟩ = some (.slice o words.length cap) ∧ w'.cell? ⟨w.heap.size, 0, none⟩ = some (S x.1) ∧ w'.cell? ⟨w.heap.size, 1, none⟩ = some (.bool x.2)) 13 rfl (by kernel_rfl) ?_
    intro w' hw'
    obtain ⟨HC2, HR2, HB2, hsz2, HK2⟩ : Hid (w'.heap[b]? = _) ∧ Hid (Tk.Rest _ _ _ _ _ _ _ _ _ _ w') ∧ Hid (w'.heap[w.heap.size]? = _) ∧ w'.heap.size = w.heap.size + 1 ∧ Hid (Keep Z w w') := by
      subst hw'; exact ⟨HC1, Lib.hid HR1.out.drew, HB1, hsz, Lib.hid HK1.out.drew⟩
    clear hw' HC1 HR1 HB1 HK1 hsz
    have hS : w'.cell? ⟨b, 3, none⟩ = some (.slice o words.length cap) ∧ w'.cell? ⟨w.heap.size, 0, none⟩ = some (S x.1) ∧ w'.cell? ⟨w.heap.size, 1, none⟩ = some (.bool x.2) := ⟨cells_of HC2.out 3 _ rfl, cells_of HB2.out 0 _ rfl, cells_of HB2.out 1 _ rfl⟩
    refine takeP 0 (v := ?qv0) (fun _ => trivial) (by rfl) (by kernel_rfl) (.inl ⟨by kernel_rfl, fun w1 _ => ?qy0⟩) ?_
    case qy0 => (go_simp; try first | rfl | (rw [if_pos (by omega)]) | (rw [if_neg (by omega)]) | (rw [if_neg (by simp; omega)]) | (split <;> first | (exfalso; omega) | rfl))
    refine takeP 1 (v := ?qv1) (fun _ => trivial) (by rfl) (by kernel_rfl) (.inl ⟨by kernel_rfl, fun w1 _ => ?qy1⟩) ?_
    case qy1 => (go_simp; try first | rfl | (rw [if_pos (by omega)]) | (rw [if_neg (by omega)]) | (rw [if_neg (by simp; omega)]) | (split <;> first | (exfalso; omega) | rfl))
    refine takeP 2 (v := ?qv2) (fun _ => trivial) (by rfl) (by kernel_rfl) (.inl ⟨by kernel_rfl, fun w1 _ => ?qy2⟩) ?_
    case qy2 => (go_simp; try first | rfl | (rw [if_pos (by omega)]) | (rw [if_neg (by omega)]) | (rw [if_neg (by simp; omega)]) | (split <;> first | (exfalso; omega) | rfl))
    refine takeP 3 (v := ?qv3) (fun _ => trivial) (by rfl) (by kernel_rfl) (.inl ⟨by kernel_rfl, fun w1 _ => ?qy3⟩) ?_
    case qy3 => (go_simp; try first | rfl | (rw [if_pos (by omega)]) | (rw [if_neg (by omega)]) | (rw [if_neg (by simp; omega)]) | (split <;> first | (exfalso; omega) | rfl))
    refine takeP 4 (v := ?qv4) (fun _ => trivial) (by rfl) (by kernel_rfl) (.inl ⟨by kernel_rfl, fun w1 _ => ?qy4⟩) ?_
    case qy4 => (go_simp; try first | rfl | (rw [if_pos (by omega)]) | (rw [if_neg (by omega)]) | (rw [if_neg (by simp; omega)]) | (split <;> first | (exfalso; omega) | rfl))
    refine takeH 5 (v := ?qv5) (fun _ => trivial) (by rfl) (by kernel_rfl) hS (.inl ⟨by kernel_rfl, fun w1 ⟨a1, a2, a3⟩ => ?qy5⟩) ?_
    case qy5 => (go_simp; try first | rfl | (rw [if_pos (by omega)]) | (rw [if_neg (by omega)]) | (rw [if_neg (by simp; omega)]) | (split <;> first | (exfalso; omega) | rfl))
    refine takeH 6 (v := ?qv6) (fun _ => trivial) (by rfl) (by kernel_rfl) hS (.inl ⟨by kernel_rfl, fun w1 ⟨a1, a2, a3⟩ => ?qy6⟩) ?_
    case qy6 => (go_simp; try first | rfl | (rw [if_pos (by omega)]) | (rw [if_neg (by omega)]) | (rw [if_neg (by simp; omega)]) | (split <;> first | (exfalso; omega) | rfl))
    refine oneH 7 (by rfl) (by kernel_rfl) (fun K hK => ?_)
    gi_wp2_with fail
    have HR3 := Lib.hid (HR2.out.alloc (.cells #[S x.1, .bool x.2] 37))
    have HK3 := Lib.hid (HR2.out.keepAlloc HK2.out (.cells #[S x.1, .bool x.2] 37))
    have HC3 := Lib.hid ((Below.heap_alloc w' (.cells #[S x.1, .bool x.2] 37) b HR2.out.bl).trans HC2.out)
    have HB3 := Lib.hid ((Below.heap_alloc w' (.cells #[S x.1, .bool x.2] 37) w.heap.size (by omega)).trans HB2.out)
    have HN3 := Lib.hid (World.alloc_heap_new w' (.cells #[S x.1, .bool x.2] 37))
    obtain ⟨W3, hW3⟩ : ∃ W3, w'.alloc (.cells #[S x.1, .bool x.2] 37) = W3 := ⟨_, rfl⟩
    rw [hW3] at HR3 HK3 HC3 HB3 HN3
    rw [hsz2] at HN3
    refine hK _ _ (fun _ => by rw [hW3]; exact ⟨cells_of HC3.out 3 _ rfl, cells_of HB3.out 0 _ rfl, cells_of HB3.out 1 _ rfl⟩) ?_
    clear hK K
    rw [hW3]
    clear hW3 hS HC2 HR2 HB2 HK2
    refine oneH 8 (by rfl) (by kernel_rfl) (fun K hK => ?_)
    gi_wp2_with (gi_at_builtin; refine append_in (fun g => ((¬ Z g ∧ g ≠ b ∧ ¬ Fz g) ∧ vp.ownBlock ≠ some g) ∧ vo.ownBlock ≠ some g) rfl _ _ 30 rfl 37 i0 (.agg #[.string ⟨#[]⟩, .bool false]) 2 24 Try.underlying30 HI.out HZ0.out HZ1.out HZ2.out rfl (by decide) _ words.length (Tk.cellsW words) (by rfl) HR3.out.rw ⟨w.heap.size + 1, 0, none⟩ 1 1 [S x.1, .bool x.2] (by rfl) (by rfl) (fun j u hj => by match j, hj with | 0, hj => cases hj; exact cells_of HN3.out 0 _ rfl | 1, hj => cases hj; exact cells_of HN3.out 1 _ rfl | j + 2, hj => simp at hj) (by intro u hu; simp at hu; rcases hu with rfl | rfl <;> rfl) (by unfold maxLen; omega) (by omega) HR3.out.fresh.1 ?_; intro v2 w2 hrow2 hgr2 _)
    obtain ⟨o2, cap2, rfl⟩ := hrow2.form
    have HR4 := Lib.hid (HR3.out.growW hgr2 (ws := words ++ [x]) (by rw [Tk.cellsW_snoc]; simpa using hrow2))
    have HC4 := Lib.hid ((hgr2.block b HR3.out.bl (fun e => (HR3.out.rw.2 b e.symm).1.1.2.1 rfl)).trans HC3.out)
    have HB4 := Lib.hid ((hgr2.block w.heap.size (Array.getElem?_eq_some_iff.1 HB3.out).1 (fun e => Nat.lt_irrefl _ (HOW.out _ e.symm))).trans HB3.out)
    have HK4 := Lib.hid (HK3.out.grown hgr2 (HR3.out.rw.keepsOthers hgr2) HR3.out.zl (fun k hk => (HR3.out.rw.2 k hk).1.1.1))
    have c3' := cells_of HC4.out 3 _ rfl
    have hz' := frozen_of HC4.out
    have hb' := HR4.out.bl
    refine hK _ _ (fun _ => ⟨cells_of HC4.out 3 _ rfl, cells_of HB4.out 0 _ rfl, cells_of HB4.out 1 _ rfl⟩) ?_
    clear hK K HR3 HC3 HB3 HN3 HK3 hrow2 hgr2
    refine takeP 9 (v := ?qv9) (fun _ => trivial) (by rfl) (by kernel_rfl) (.inl ⟨by kernel_rfl, fun w1 _ => ?qy9⟩) ?_
    case qy9 => (go_simp; try first | rfl | (rw [if_pos (by omega)]) | (rw [if_neg (by omega)]) | (rw [if_neg (by simp; omega)]) | (split <;> first | (exfalso; omega) | rfl))
    refine takeP 10 (v := ?qv10) (fun _ => trivial) (by rfl) (by kernel_rfl) (.inl ⟨by kernel_rfl, fun w1 _ => ?qy10⟩) ?_
    case qy10 => (go_simp; try first | rfl | (rw [if_pos (by omega)]) | (rw [if_neg (by omega)]) | (rw [if_neg (by simp; omega)]) | (split <;> first | (exfalso; omega) | rfl))
    refine takeP 11 (v := ?qv11) (fun _ => trivial) (by rfl) (by kernel_rfl) (.inl ⟨by kernel_rfl, fun w1 _ => ?qy11⟩) ?_
    case qy11 => (go_simp; try first | rfl | (rw [if_pos (by omega)]) | (rw [if_neg (by omega)]) | (rw [if_neg (by simp; omega)]) | (split <;> first | (exfalso; omega) | rfl))
    refine oneH 12 (by rfl) (by kernel_rfl) (fun K hK => ?_)
    gi_wp2_with fail
    refine hK _ _ (fun h => absurd h (by decide)) ?_
    clear hK K
    refine doneH (by kernel_rfl) ?_
    gi_wp2_with fail
    go_end0
    exact ⟨rfl, ⟨Fz, vo, _, vp, us, by rw [block_set HC4.out]; rfl, (HR4.out.set 3 _).line _ _⟩, HK4.out.setCell HR4.out.bz _⟩
  · have hk0 : ((words.length : Int) == 0) = false := by rw [beq_eq_false_iff_ne]; have := List.length_pos_iff.2 hk; omega
    have HK := Lib.hid hk
    have hk1 : 0 < words.length := List.length_pos_iff.2 hk
    have hk2 : (words.length : Int) ≤ 1000000 := by omega
    clear hk
    refine (callsIn_wide (n := 0)).1 ?_
    refine callsIn_of_wp Try.func55 rfl trivial ?_ rfl
    simp only [Try.ntmps55, List.size_toArray, List.length_cons, List.length_nil, Nat.reduceAdd, Nat.reduceSub, Array.replicate_succ, Array.replicate_zero, List.push_toArray, List.append_toArray, List.nil_append, List.cons_append]
    gi_wp2_with fail
    obtain ⟨W1, hW1, HC1, HR1, HB1, hsz, HK1⟩ : ∃ W1, w.alloc (.cells #[S x.1, .bool x.2] 37) = W1 ∧ Hid (W1.heap[b]? = some (.cells #[vo, .int .i64 ((if words = [] then cu else line : Nat) : Int), .bool blank, .slice o words.length cap, .int .i64 cu, .bool bg, vp] 66 (0, 0))) ∧
        Hid (Tk.Rest 32 37 Z b Fz vo (.slice o words.length cap) vp us ⟨out, line, blank, words, opens⟩ W1) ∧ Hid (W1.heap[w.heap.size]? = some (.cells #[S x.1, .bool x.2] 37 (0, 0))) ∧ W1.heap.size = w.heap.size + 1 ∧ Hid (Keep Z w W1) := by
      refine ⟨_, rfl, Lib.hid ?_, Lib.hid (HR.out.alloc _), Lib.hid (World.alloc_heap_new w _), by simp, Lib.hid (HR.out.keepAlloc (Keep.refl _ _) _)⟩
      rw [if_neg HK.out, Below.heap_alloc _ _ _ hb]; exact HC.out
    rw [hW1]
    clear hW1 HK
    refine drawnH [5, 6, 7, 8] (fun w' => w'.cell? ⟨b, 3, none⟩ = some (.slice o words.length cap) ∧ w'.cell? ⟨w.heap.size, 0, none⟩ = some (S x.1) ∧ w'.cell? ⟨w.heap.size, 1, none⟩ = some (.bool x.2)) 13 rfl (by kernel_rfl) ?_
    intro w' hw'
    obtain ⟨HC2, HR2, HB2, hsz2, HK2⟩ : Hid (w'.heap[b]? = _) ∧ Hid (Tk.Rest _ _ _ _ _ _ _ _ _ _ w') ∧ Hid (w'.heap[w.heap.size]? = _) ∧ w'.heap.size = w.heap.size + 1 ∧ Hid (Keep Z w w') := by
      subst hw'; exact ⟨HC1, Lib.hid HR1.out.drew, HB1, hsz, Lib.hid HK1.out.drew⟩
    clear hw' HC1 HR1 HB1 HK1 hsz
    have hS : w'.cell? ⟨b, 3, none⟩ = some (.slice o words.length cap) ∧ w'.cell? ⟨w.heap.size, 0, none⟩ = some (S x.1) ∧ w'.cell? ⟨w.heap.size, 1, none⟩ = some (.bool x.2) := ⟨cells_of HC2.out 3 _ rfl, cells_of HB2.out 0 _ rfl, cells_of HB2.out 1 _ rfl⟩
    refine takeP 0 (v := ?qv0) (fun _ => trivial) (by rfl) (by kernel_rfl) (.inl ⟨by kernel_rfl, fun w1 _ => ?qy0⟩) ?_
    case qy0 => (go_simp; try first | rfl | (rw [if_pos (by omega)]) | (rw [if_neg (by omega)]) | (rw [if_neg (by simp; omega)]) | (split <;> first | (exfalso; omega) | rfl))
    refine takeP 1 (v := ?qv1) (fun _ => trivial) (by rfl) (by kernel_rfl) (.inl ⟨by kernel_rfl, fun w1 _ => ?qy1⟩) ?_
    case qy1 => (go_simp; try first | rfl | (rw [if_pos (by omega)]) | (rw [if_neg (by omega)]) | (rw [if_neg (by simp; omega)]) | (split <;> first | (exfalso; omega) | rfl))
    refine takeP 2 (v := ?qv2) (fun _ => trivial) (by rfl) (by kernel_rfl) (.inl ⟨by kernel_rfl, fun w1 _ => ?qy2⟩) ?_
    case qy2 => (go_simp; try first | rfl | (rw [if_pos (by omega)]) | (rw [if_neg (by omega)]) | (rw [if_neg (by simp; omega)]) | (split <;> first | (exfalso; omega) | rfl))
    refine takeP 3 (v := ?qv3) (fun _ => trivial) (by rfl) (by kernel_rfl) (.inl ⟨by kernel_rfl, fun w1 _ => ?qy3⟩) ?_
    case qy3 => (go_simp; try first | rfl | (rw [if_pos (by omega)]) | (rw [if_neg (by omega)]) | (rw [if_neg (by simp; omega)]) | (split <;> first | (exfalso; omega) | rfl))
    refine takeP 4 (v := ?qv4) (fun _ => trivial) (by rfl) (by kernel_rfl) (.inl ⟨by kernel_rfl, fun w1 _ => ?qy4⟩) ?_
    case qy4 => (go_simp; try first | rfl | (rw [if_pos (by omega)]) | (rw [if_neg (by omega)]) | (rw [if_neg (by simp; omega)]) | (split <;> first | (exfalso; omega) | rfl))
    refine takeH 5 (v := ?qv5) (fun _ => trivial) (by rfl) (by kernel_rfl) hS (.inl ⟨by kernel_rfl, fun w1 ⟨a1, a2, a3⟩ => ?qy5⟩) ?_
    case qy5 => (go_simp; try first | rfl | (rw [if_pos (by omega)]) | (rw [if_neg (by omega)]) | (rw [if_neg (by simp; omega)]) | (split <;> first | (exfalso; omega) | rfl))
    refine takeH 6 (v := ?qv6) (fun _ => trivial) (by rfl) (by kernel_rfl) hS (.inl ⟨by kernel_rfl, fun w1 ⟨a1, a2, a3⟩ => ?qy6⟩) ?_
    case qy6 => (go_simp; try first | rfl | (rw [if_pos (by omega)]) | (rw [if_neg (by omega)]) | (rw [if_neg (by simp; omega)]) | (split <;> first | (exfalso; omega) | rfl))
    refine oneH 7 (by rfl) (by kernel_rfl) (fun K hK => ?_)
    gi_wp2_with fail
    have HR3 := Lib.hid (HR2.out.alloc (.cells #[S x.1, .bool x.2] 37))
    have HK3 := Lib.hid (HR2.out.keepAlloc HK2.out (.cells #[S x.1, .bool x.2] 37))
    have HC3 := Lib.hid ((Below.heap_alloc w' (.cells #[S x.1, .bool x.2] 37) b HR2.out.bl).trans HC2.out)
    have HB3 := Lib.hid ((Below.heap_alloc w' (.cells #[S x.1, .bool x.2] 37) w.heap.size (by omega)).trans HB2.out)
    have HN3 := Lib.hid (World.alloc_heap_new w' (.cells #[S x.1, .bool x.2] 37))
    obtain ⟨W3, hW3⟩ : ∃ W3, w'.alloc (.cells #[S x.1, .bool x.2] 37) = W3 := ⟨_, rfl⟩
    rw [hW3] at HR3 HK3 HC3 HB3 HN3
    rw [hsz2] at HN3
    refine hK _ _ (fun _ => by rw [hW3]; exact ⟨cells_of HC3.out 3 _ rfl, cells_of HB3.out 0 _ rfl, cells_of HB3.out 1 _ rfl⟩) ?_
    clear hK K
    rw [hW3]
    clear hW3 hS HC2 HR2 HB2 HK2
    refine oneH 8 (by rfl) (by kernel_rfl) (fun K hK => ?_)
    gi_wp2_with (gi_at_builtin; refine append_in (fun g => ((¬ Z g ∧ g ≠ b ∧ ¬ Fz g) ∧ vp.ownBlock ≠ some g) ∧ vo.ownBlock ≠ some g) rfl _ _ 30 rfl 37 i0 (.agg #[.string ⟨#[]⟩, .bool false]) 2 24 Try.underlying30 HI.out HZ0.out HZ1.out HZ2.out rfl (by decide) _ words.length (Tk.cellsW words) (by rfl) HR3.out.rw ⟨w.heap.size + 1, 0, none⟩ 1 1 [S x.1, .bool x.2] (by rfl) (by rfl) (fun j u hj => by match j, hj with | 0, hj => cases hj; exact cells_of HN3.out 0 _ rfl | 1, hj => cases hj; exact cells_of HN3.out 1 _ rfl | j + 2, hj => simp at hj) (by intro u hu; simp at hu; rcases hu with rfl | rfl <;> rfl) (by unfold maxLen; omega) (by omega) HR3.out.fresh.1 ?_; intro v2 w2 hrow2 hgr2 _)
    obtain ⟨o2, cap2, rfl⟩ := hrow2.form
    have HR4 := Lib.hid (HR3.out.growW hgr2 (ws := words ++ [x]) (by rw [Tk.cellsW_snoc]; simpa using hrow2))
    have HC4 := Lib.hid ((hgr2.block b HR3.out.bl (fun e => (HR3.out.rw.2 b e.symm).1.1.2.1 rfl)).trans HC3.out)
    have HB4 := Lib.hid ((hgr2.block w.heap.size (Array.getElem?_eq_some_iff.1 HB3.out).1 (fun e => Nat.lt_irrefl _ (HOW.out _ e.symm))).trans HB3.out)
    have HK4 := Lib.hid (HK3.out.grown hgr2 (HR3.out.rw.keepsOthers hgr2) HR3.out.zl (fun k hk => (HR3.out.rw.2 k hk).1.1.1))
    have c3' := cells_of HC4.out 3 _ rfl
    have hz' := frozen_of HC4.out
    have hb' := HR4.out.bl
    refine hK _ _ (fun _ => ⟨cells_of HC4.out 3 _ rfl, cells_of HB4.out 0 _ rfl, cells_of HB4.out 1 _ rfl⟩) ?_
    clear hK K HR3 HC3 HB3 HN3 HK3 hrow2 hgr2
    refine takeP 9 (v := ?qv9) (fun _ => trivial) (by rfl) (by kernel_rfl) (.inl ⟨by kernel_rfl, fun w1 _ => ?qy9⟩) ?_
    case qy9 => (go_simp; try first | rfl | (rw [if_pos (by omega)]) | (rw [if_neg (by omega)]) | (rw [if_neg (by simp; omega)]) | (split <;> first | (exfalso; omega) | rfl))
    refine takeP 10 (v := ?qv10) (fun _ => trivial) (by rfl) (by kernel_rfl) (.inl ⟨by kernel_rfl, fun w1 _ => ?qy10⟩) ?_
    case qy10 => (go_simp; try first | rfl | (rw [if_pos (by omega)]) | (rw [if_neg (by omega)]) | (rw [if_neg (by simp; omega)]) | (split <;> first | (exfalso; omega) | rfl))
    refine takeP 11 (v := ?qv11) (fun _ => trivial) (by rfl) (by kernel_rfl) (.inl ⟨by kernel_rfl, fun w1 _ => ?qy11⟩) ?_
    case qy11 => (go_simp; try first | rfl | (rw [if_pos (by omega)]) | (rw [if_neg (by omega)]) | (rw [if_neg (by simp; omega)]) | (split <;> first | (exfalso; omega) | rfl))
    refine oneH 12 (by rfl) (by kernel_rfl) (fun K hK => ?_)
    gi_wp2_with fail
    refine hK _ _ (fun h => absurd h (by decide)) ?_
    clear hK K
    refine doneH (by kernel_rfl) ?_
    gi_wp2_with fail
    go_end0
    exact ⟨rfl, ⟨Fz, vo, _, vp, us, by rw [block_set HC4.out]; rfl, (HR4.out.set 3 _).line _ _⟩, HK4.out.setCell HR4.out.bz _⟩
end Go.Proofs.Yticljagcigiejaa
