/- A text's entries. -/
import Derived.Test.YticljagcigiejaaTkF
namespace Go.Proofs.Yticljagcigiejaa
open Go.RowKit Go.Shelf
set_option maxRecDepth 100000

namespace Tk
theorem readF_grows : ∀ (f : Nat) (s : List UInt8) (st st' : St) (n : Nat), s.length ≤ f → readF f s st n = .ok st' → st.opens.length ≤ 8 → st'.words.length ≤ st.words.length + s.length ∧ st'.out = st.out ∧ st'.opens.length ≤ 8 ∧ st'.blank = st.blank
  | 0, s, st, st', n, _, h, ho => by cases h; exact ⟨by omega, rfl, ho, rfl⟩
  | f + 1, [], st, st', n, _, h, ho => by cases h; exact ⟨by omega, rfl, ho, rfl⟩
  | f + 1, c :: r, st, st', n, hf, h, ho => by
    simp only [List.length_cons] at hf ⊢
    unfold readF at h
    split at h
    · have := readF_grows f r st st' n (by omega) h ho
      exact ⟨by omega, this.2⟩
    rename_i h1
    split at h
    · cases h; exact ⟨by omega, rfl, ho, rfl⟩
    rename_i h2
    split at h
    · split at h
      · cases h
      · have := readF_grows f r _ st' n (by omega) h (by simp [St.open]; omega)
        exact ⟨by have := this.1; simp [St.open] at this; omega, this.2⟩
    rename_i h3
    split at h
    · split at h
      · cases h
      · have := readF_grows f r _ st' n (by omega) h (by simp [St.close]; omega)
        exact ⟨by have := this.1; simp [St.close] at this; omega, this.2⟩
    rename_i h4
    split at h
    · rcases hq : quo r with _ | t
      · rw [hq] at h; cases h
      · rw [hq] at h
        have hl := quo_len _ r t (Nat.le_refl _) hq
        have := readF_grows f _ _ st' n (by simp; omega) h ho
        exact ⟨by have := this.1; simp [St.put] at this; omega, this.2⟩
    rename_i h5
    rcases hq : bare (c :: r) with _ | t
    · rw [hq] at h; cases h
    · rw [hq] at h
      have hp := bare_pos (not_sep h1 h2 h3 h4 h5) hq
      have := readF_grows f _ _ st' n (by simp; omega) h ho
      exact ⟨by have := this.1; simp [St.put] at this; omega, this.2⟩
theorem read_grows {s : List UInt8} {st st' : St} {n : Nat} (h : read s st n = .ok st') (ho : st.opens.length ≤ 8) : st'.words.length ≤ st.words.length + s.length ∧ st'.out = st.out ∧ st'.opens.length ≤ 8 ∧ st'.blank = st.blank :=
  readF_grows _ s st st' n (Nat.le_refl _) h ho
theorem line1_len (s : List UInt8) (h : s ≠ []) : (line1 s).length ≤ s.length ∧ (line1 s).length + (rest s).length ≤ s.length := by
  have hc : ∀ l, (cr l).length ≤ l.length := fun l => by unfold cr; split <;> simp
  unfold line1
  rcases idx_line s with ⟨h1, _, h3, h4⟩ | ⟨h1, k, _, h3, h4, h5⟩
  · rw [h1, h4]; simp
  · rw [h1, h5, if_pos rfl, h4]
    have := hc (s.take k)
    simp at this ⊢; omega
/-- the value v reads as the entries, in blocks that A names -/
def EnRd (A : Nat → Prop) (v : Value) (ens : List En) (W : World) : Prop :=
  ∃ us, ens.length = us.length ∧ (∀ i (h : i < us.length) (h' : i < ens.length), WdRd A us[i] ens[i].words W) ∧
    ((v = .slice none 0 0 ∧ ens = []) ∨ ∃ g cap, v = .slice (some ⟨g, 0, none⟩) ens.length cap ∧ ens.length ≤ cap ∧ cap ≤ maxLen ∧ A g ∧ g < W.heap.size ∧ ∀ j (h : j < (cellsE ens us).length), W.cell? ⟨g, j, none⟩ = some (cellsE ens us)[j])
theorem EnRd.kept {A A' v ens} {W W' : World} (h : EnRd A v ens W) (hA : ∀ g, A g → A' g) (hs : W.heap.size ≤ W'.heap.size) (hk : ∀ g, A g → g < W.heap.size → W'.heap[g]? = W.heap[g]?) : EnRd A' v ens W' := by
  obtain ⟨us, h1, h2, h3⟩ := h
  refine ⟨us, h1, fun i hi hi' => (h2 i hi hi').kept hA hs hk, ?_⟩
  rcases h3 with h | ⟨g, cap, e1, e2, e3, e0, e4, e5⟩
  · exact .inl h
  · exact .inr ⟨g, cap, e1, e2, e3, hA g e0, by omega, fun j hj => (World.cell?_of_block (hk g e0 e4)).trans (e5 j hj)⟩
theorem EnRd.below {A v ens} {W W' : World} (h : EnRd A v ens W) (hb : Below W.heap.size W W') : EnRd A v ens W' := h.kept (fun _ h => h) hb.size (fun g _ hl => hb.block g hl)
theorem EnRd.form {A v ens} {W : World} (h : EnRd A v ens W) : ∃ o c, v = .slice o ens.length c := by
  obtain ⟨us, h1, h2, h3⟩ := h
  rcases h3 with ⟨rfl, rfl⟩ | ⟨g, cap, rfl, _⟩
  · exact ⟨_, _, rfl⟩
  · exact ⟨_, _, rfl⟩
theorem cellsE_len : ∀ {es : List En} {us : List Value}, es.length = us.length → (cellsE es us).length = es.length * 3
  | [], _, _ => by simp [cellsE]
  | x :: es, [], h => by simp at h
  | x :: es, u :: us, h => by
    have := cellsE_len (es := es) (us := us) (by simpa using h)
    simp only [cellsE, List.zip_cons_cons, List.flatMap_cons, List.length_append, List.length_cons, List.length_nil] at *
    omega
theorem Rest.entries {TE TW Z b Fz vo vw vp us st} {W : World} (h : Rest TE TW Z b Fz vo vw vp us st W) : EnRd (fun g => ¬ Z g ∧ g ≠ b) vo st.out W := by
  refine ⟨us, h.ul, fun i hi _ => (h.uw i hi).kept (fun g hg => ⟨(h.fl g hg).1, (h.fl g hg).2.1⟩) (Nat.le_refl _) (fun _ _ _ => rfl), ?_⟩
  obtain ⟨⟨hl, ho⟩, hro⟩ := h.ro
  rcases ho with ⟨rfl, h0⟩ | ⟨g, cap, cur, rfl, _, hg, h1, h2, h3, h4⟩
  · exact .inl ⟨rfl, List.length_eq_zero_iff.1 h0⟩
  · refine .inr ⟨g, cap, rfl, h1, h2, ⟨(hro g rfl).1.1, (hro g rfl).1.2.1⟩, (Array.getElem?_eq_some_iff.1 hg).1, fun j hj => ?_⟩
    rw [cell_of_row W g j _ _ _ hg]
    have := congrArg (fun l => l[j]?) h4
    have hj' := hj
    rw [cellsE_len h.ul] at hj'
    simp only [List.getElem?_take, hj', if_true] at this
    rw [List.getElem?_eq_getElem (l := cellsE st.out us) hj] at this
    simpa using this
end Tk

theorem results_cell3 {fn : Func} {p q r : Tmp} {t1 t2 t3 : TypeId} (h : fn.results = #[.cell p t1, .cell q t2, .cell r t3]) (tmps : Array Value) (P : Program) (w : World) (a1 a2 a3 : Addr) (v1 v2 v3 : Value)
    (hp : tmps.getD p undef = .pointer (some a1)) (hq : tmps.getD q undef = .pointer (some a2)) (hr : tmps.getD r undef = .pointer (some a3))
    (l1 : (loadVar t1 a1).run P w = .ok v1 w) (l2 : (loadVar t2 a2).run P w = .ok v2 w) (l3 : (loadVar t3 a3).run P w = .ok v3 w) : (results fn tmps).run P w = .ok (.tuple #[v1, v2, v3]) w := by
  simp only [Array.getD_eq_getD_getElem?] at hp hq hr
  simp [results, h, hp, hq, hr, asAddr, l1, l2, l3]
theorem loadVar_cell {P : Program} {t : TypeId} {w : World} {a : Addr} {v : Value} (ha : ∀ w, (isAgg t).run P w = .ok false w) (hc : w.cell? a = some v) : (loadVar t a).run P w = .ok v w := by
  simp [loadVar, ha, hc, go_sem]
theorem agg_tes (w : World) : (isAgg 23).run Try.prog w = .ok false w := by
  simp [go_sem]
end Go.Proofs.Yticljagcigiejaa
