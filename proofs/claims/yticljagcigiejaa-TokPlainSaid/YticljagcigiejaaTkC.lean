/- What a reader of words holds in memory. -/
import Derived.Test.YticljagcigiejaaTkB
namespace Go.Proofs.Yticljagcigiejaa
open Go.RowKit Go.Shelf
set_option maxRecDepth 100000

namespace Tk
def cellsW (ws : List Wd) : List Value := ws.flatMap fun x => [S x.1, .bool x.2]
def cellsE (es : List En) (us : List Value) : List Value := (es.zip us).flatMap fun x => [.int .i64 x.1.line, .bool x.1.blank, x.2]
def cellsI (ns : List Nat) : List Value := ns.map fun n : Nat => Value.int .i64 (n : Int)
theorem cellsW_len (ws : List Wd) : (cellsW ws).length = ws.length * 2 := by
  induction ws with
  | nil => rfl
  | cons x r ih => simp only [cellsW, List.flatMap_cons, List.length_append, List.length_cons, List.length_nil] at *; omega
theorem cellsW_snoc (ws : List Wd) (x : Wd) : cellsW (ws ++ [x]) = cellsW ws ++ [S x.1, .bool x.2] := by simp [cellsW]
theorem cellsE_snoc {es : List En} {us : List Value} (h : es.length = us.length) (x : En) (u : Value) : cellsE (es ++ [x]) (us ++ [u]) = cellsE es us ++ [.int .i64 x.line, .bool x.blank, u] := by
  simp [cellsE, List.zip_append h]
/-- the value v reads as the words ws, in a block that A names -/
def WdRd (A : Nat → Prop) (v : Value) (ws : List Wd) (W : World) : Prop :=
  (v = .slice none 0 0 ∧ ws = []) ∨ ∃ g cap, v = .slice (some ⟨g, 0, none⟩) ws.length cap ∧ ws.length ≤ cap ∧ cap ≤ maxLen ∧ A g ∧ g < W.heap.size ∧ ∀ j (h : j < (cellsW ws).length), W.cell? ⟨g, j, none⟩ = some (cellsW ws)[j]
theorem WdRd.kept {A A' : Nat → Prop} {v ws} {W W' : World} (h : WdRd A v ws W) (hA : ∀ g, A g → A' g) (hs : W.heap.size ≤ W'.heap.size) (hk : ∀ g, A g → g < W.heap.size → W'.heap[g]? = W.heap[g]?) : WdRd A' v ws W' := by
  rcases h with h | ⟨g, cap, h1, h2, h3, h4, h5, h6⟩
  · exact .inl h
  · exact .inr ⟨g, cap, h1, h2, h3, hA g h4, by omega, fun j hj => (World.cell?_of_block (hk g h4 h5)).trans (h6 j hj)⟩
theorem WdRd.of_row {R : Nat → Prop} {e : TypeId} {v : Value} {ws : List Wd} {W : World} (h : Row R e 2 v ws.length (cellsW ws) W) : WdRd (fun g => v.ownBlock = some g) v ws W := by
  obtain ⟨⟨hl, ho⟩, _⟩ := h
  rcases ho with ⟨rfl, h0⟩ | ⟨g, cap, cur, rfl, _, hg, h1, h2, h3, h4⟩
  · exact .inl ⟨rfl, List.length_eq_zero_iff.1 h0⟩
  · refine .inr ⟨g, cap, rfl, h1, h2, rfl, (Array.getElem?_eq_some_iff.1 hg).1, fun j hj => ?_⟩
    rw [cell_of_row W g j _ _ _ hg]
    have := congrArg (fun l => l[j]?) h4
    rw [cellsW_len] at hj
    simp only [List.getElem?_take, hj, if_true] at this
    rw [List.getElem?_eq_getElem (l := cellsW ws) (by rw [cellsW_len]; exact hj)] at this
    simpa using this

/-- what lies in memory besides the reader's own cells: entries, the words of the one that is being made, open brackets. Z: blocks of others; b: the reader's own; Fz: where the words of entries lie. -/
structure Rest (TE TW : TypeId) (Z : Nat → Prop) (b : Nat) (Fz : Nat → Prop) (vo vw vp : Value) (us : List Value) (st : St) (W : World) : Prop where
  bz : ¬ Z b
  bl : b < W.heap.size
  zl : ∀ g, Z g → g < W.heap.size
  fl : ∀ g, Fz g → ¬ Z g ∧ g ≠ b ∧ g < W.heap.size
  ul : st.out.length = us.length
  uw : ∀ i (h : i < us.length), WdRd Fz us[i] (st.out[i]'(by omega)).words W
  rp : Row (fun g => ¬ Z g ∧ g ≠ b ∧ ¬ Fz g) 3 1 vp st.opens.length (cellsI st.opens) W
  ro : Row (fun g => (¬ Z g ∧ g ≠ b ∧ ¬ Fz g) ∧ vp.ownBlock ≠ some g) TE 3 vo st.out.length (cellsE st.out us) W
  rw : Row (fun g => ((¬ Z g ∧ g ≠ b ∧ ¬ Fz g) ∧ vp.ownBlock ≠ some g) ∧ vo.ownBlock ≠ some g) TW 2 vw st.words.length (cellsW st.words) W
theorem row_lt {R e sz v n xs} {W : World} (h : Row R e sz v n xs W) {g : Nat} (hg : v.ownBlock = some g) : g < W.heap.size := (h.1.lt g hg).2
theorem row_kept {R e sz v n xs} {W W' : World} (h : Row R e sz v n xs W) (hk : ∀ g, R g → g < W.heap.size → W'.heap[g]? = W.heap[g]?) : Row R e sz v n xs W' :=
  h.kept fun g c t f hv hg => by rw [hk g (h.2 g hv) (Array.getElem?_eq_some_iff.1 hg).1]; exact hg
/-- whatever keeps all but the blocks of others and the reader's own cells -/
theorem Rest.kept {TE TW Z b Fz vo vw vp us st} {W W' : World} (h : Rest TE TW Z b Fz vo vw vp us st W) (hs : W.heap.size ≤ W'.heap.size) (hk : ∀ g, ¬ Z g → g ≠ b → g < W.heap.size → W'.heap[g]? = W.heap[g]?) : Rest TE TW Z b Fz vo vw vp us st W' :=
  ⟨h.bz, by have := h.bl; omega, fun g hg => by have := h.zl g hg; omega, fun g hg => by have := h.fl g hg; exact ⟨this.1, this.2.1, by omega⟩, h.ul,
    fun i hi => (h.uw i hi).kept (fun _ h => h) hs (fun g hg hl => hk g (h.fl g hg).1 (h.fl g hg).2.1 hl),
    row_kept h.rp (fun g hg hl => hk g hg.1 hg.2.1 hl), row_kept h.ro (fun g hg hl => hk g hg.1.1 hg.1.2.1 hl), row_kept h.rw (fun g hg hl => hk g hg.1.1.1 hg.1.1.2.1 hl)⟩
theorem Rest.set {TE TW Z b Fz vo vw vp us st} {W : World} (h : Rest TE TW Z b Fz vo vw vp us st W) (i : Nat) (u : Value) : Rest TE TW Z b Fz vo vw vp us st (W.setCell ⟨b, i, none⟩ u) :=
  h.kept (by simp) (fun g _ hb _ => Below.heap_setCell _ _ _ _ hb)
theorem Rest.alloc {TE TW Z b Fz vo vw vp us st} {W : World} (h : Rest TE TW Z b Fz vo vw vp us st W) (o : Obj) : Rest TE TW Z b Fz vo vw vp us st (W.alloc o) :=
  h.kept (by simp) (fun g _ _ hl => Below.heap_alloc _ _ _ hl)
theorem Rest.drew {TE TW Z b Fz vo vw vp us st} {W : World} (h : Rest TE TW Z b Fz vo vw vp us st W) : Rest TE TW Z b Fz vo vw vp us st W.drew := h.kept (Nat.le_refl _) (fun _ _ _ _ => rfl)
/-- a field that memory does not bear -/
theorem Rest.line {TE TW Z b Fz vo vw vp us st} {W : World} (h : Rest TE TW Z b Fz vo vw vp us st W) (n : Nat) (bl : Bool) : Rest TE TW Z b Fz vo vw vp us { st with line := n, blank := bl } W :=
  ⟨h.bz, h.bl, h.zl, h.fl, h.ul, h.uw, h.rp, h.ro, h.rw⟩
/-- the word's row has grown -/
theorem Rest.growW {TE TW Z b Fz vo vw vp us st} {W W' : World} (h : Rest TE TW Z b Fz vo vw vp us st W) {vw' : Value} {ws : List Wd} (hg : W.grownBy W' vw.ownBlock)
    (hr : Row (fun g => ((¬ Z g ∧ g ≠ b ∧ ¬ Fz g) ∧ vp.ownBlock ≠ some g) ∧ vo.ownBlock ≠ some g) TW 2 vw' ws.length (cellsW ws) W') : Rest TE TW Z b Fz vo vw' vp us { st with words := ws } W' := by
  have hk : ∀ g, vw.ownBlock ≠ some g → g < W.heap.size → W'.heap[g]? = W.heap[g]? := fun g hne hl => hg.block g hl (fun e => hne e.symm)
  refine ⟨h.bz, by have := h.bl; have := hg.size; omega, fun g hz => by have := h.zl g hz; have := hg.size; omega, fun g hz => ?_, h.ul, fun i hi => ?_, ?_, ?_, hr⟩
  · have h0 := h.fl g hz; have := hg.size; exact ⟨h0.1, h0.2.1, by omega⟩
  · exact (h.uw i hi).kept (fun _ h => h) hg.size (fun g hf hl => hk g (fun e => (h.rw.2 g e).1.1.2.2 hf) hl)
  · exact h.rp.kept fun g c t f hv hgc => by rw [hk g (fun e => (h.rw.2 g e).1.2 hv) (Array.getElem?_eq_some_iff.1 hgc).1]; exact hgc
  · exact h.ro.kept fun g c t f hv hgc => by rw [hk g (fun e => (h.rw.2 g e).2 hv) (Array.getElem?_eq_some_iff.1 hgc).1]; exact hgc
/-- the brackets' row has grown, or shrunk -/
theorem Rest.growP {TE TW Z b Fz vo vw vp us st} {W W' : World} (h : Rest TE TW Z b Fz vo vw vp us st W) {vp' : Value} {ns : List Nat} (hg : W.grownBy W' vp.ownBlock)
    (hr : Row (fun g => (¬ Z g ∧ g ≠ b ∧ ¬ Fz g) ∧ vo.ownBlock ≠ some g ∧ vw.ownBlock ≠ some g) 3 1 vp' ns.length (cellsI ns) W') : Rest TE TW Z b Fz vo vw vp' us { st with opens := ns } W' := by
  have hk : ∀ g, vp.ownBlock ≠ some g → g < W.heap.size → W'.heap[g]? = W.heap[g]? := fun g hne hl => hg.block g hl (fun e => hne e.symm)
  refine ⟨h.bz, by have := h.bl; have := hg.size; omega, fun g hz => by have := h.zl g hz; have := hg.size; omega, fun g hz => ?_, h.ul, fun i hi => ?_, hr.mono fun g hg => hg.1, ?_, ?_⟩
  · have h0 := h.fl g hz; have := hg.size; exact ⟨h0.1, h0.2.1, by omega⟩
  · exact (h.uw i hi).kept (fun _ h => h) hg.size (fun g hf hl => hk g (fun e => (h.rp.2 g e).2.2 hf) hl)
  · refine ⟨(h.ro.kept fun g c t f hv hgc => by rw [hk g (h.ro.2 g hv).2 (Array.getElem?_eq_some_iff.1 hgc).1]; exact hgc).1, fun g hv => ⟨(h.ro.2 g hv).1, fun e => (hr.2 g e).2.1 hv⟩⟩
  · refine ⟨(h.rw.kept fun g c t f hv hgc => by rw [hk g (h.rw.2 g hv).1.2 (Array.getElem?_eq_some_iff.1 hgc).1]; exact hgc).1, fun g hv => ⟨⟨(h.rw.2 g hv).1.1, fun e => (hr.2 g e).2.2 hv⟩, (h.rw.2 g hv).2⟩⟩
/-- the entry that was made is the last of all; the next one has no words -/
theorem Rest.growO {TE TW Z b Fz vo vw vp us st} {W W' : World} (h : Rest TE TW Z b Fz vo vw vp us st W) {vo' : Value} (x : En) (hx : x.words = st.words) (hg : W.grownBy W' vo.ownBlock)
    (hr : Row (fun g => ((¬ Z g ∧ g ≠ b ∧ ¬ Fz g) ∧ vp.ownBlock ≠ some g) ∧ vw.ownBlock ≠ some g) TE 3 vo' (st.out.length + 1) (cellsE st.out us ++ [.int .i64 x.line, .bool x.blank, vw]) W') :
    Rest TE TW Z b (fun g => Fz g ∨ vw.ownBlock = some g) vo' (.slice none 0 0) vp (us ++ [vw]) { st with out := st.out ++ [x], words := [] } W' := by
  have hk : ∀ g, vo.ownBlock ≠ some g → g < W.heap.size → W'.heap[g]? = W.heap[g]? := fun g hne hl => hg.block g hl (fun e => hne e.symm)
  refine ⟨h.bz, by have := h.bl; have := hg.size; omega, fun g hz => by have := h.zl g hz; have := hg.size; omega, fun g hz => ?_, by simp [h.ul], fun i hi => ?_, ?_, ?_, Row.nil _ _ _ _⟩
  · have := hg.size
    rcases hz with hz | hz
    · have := h.fl g hz; exact ⟨this.1, this.2.1, by omega⟩
    · have h1 := (h.rw.2 g hz).1.1; have := row_lt h.rw hz; exact ⟨h1.1, h1.2.1, by omega⟩
  · by_cases hl : i < us.length
    · have e1 : (us ++ [vw])[i] = us[i] := List.getElem_append_left hl
      have e2 : (st.out ++ [x])[i]'(by simp; have := h.ul; omega) = st.out[i]'(by have := h.ul; omega) := List.getElem_append_left (by have := h.ul; omega)
      rw [e1, e2]
      exact (h.uw i hl).kept (fun _ h => .inl h) hg.size (fun g hf hl => hk g (fun e => (h.ro.2 g e).1.2.2 hf) hl)
    · have hi' : i = us.length := by simp at hi; omega
      subst hi'
      have e1 : (us ++ [vw])[us.length] = vw := by simp
      have e2 : (st.out ++ [x])[us.length]'(by simp; have := h.ul; omega) = x := by
        have := h.ul
        simp [← this]
      rw [e1, e2, hx]
      exact (WdRd.of_row h.rw).kept (fun _ h => .inr h) hg.size (fun g hf hl => hk g (fun e => (h.rw.2 g hf).2 e) hl)
  · refine ⟨(h.rp.kept fun g c t f hv hgc => by rw [hk g (fun e => (h.ro.2 g e).2 hv) (Array.getElem?_eq_some_iff.1 hgc).1]; exact hgc).1, fun g hv => ?_⟩
    have h1 := h.rp.2 g hv
    exact ⟨h1.1, h1.2.1, fun e => e.elim h1.2.2 (fun e => (h.rw.2 g e).1.2 hv)⟩
  · have e : cellsE (st.out ++ [x]) (us ++ [vw]) = cellsE st.out us ++ [.int .i64 x.line, .bool x.blank, vw] := cellsE_snoc h.ul x vw
    rw [show (st.out ++ [x]).length = st.out.length + 1 by simp, e]
    exact hr.mono fun g hg => ⟨⟨hg.1.1.1, hg.1.1.2.1, fun e => e.elim hg.1.1.2.2 hg.2⟩, hg.1.2⟩
/-- the entry that was made had no words: the next one -/
theorem Rest.dropW {TE TW Z b Fz vo vw vp us st} {W : World} (h : Rest TE TW Z b Fz vo vw vp us st W) : Rest TE TW Z b Fz vo (.slice none 0 0) vp us { st with words := [] } W :=
  ⟨h.bz, h.bl, h.zl, h.fl, h.ul, h.uw, h.rp, h.ro, Row.nil _ _ _ _⟩
/-- others lay blocks too -/
theorem Rest.more {TE TW Z b Fz vo vw vp us st} {W : World} (h : Rest TE TW Z b Fz vo vw vp us st W) (Z' : Nat → Prop) (hb : ¬ Z' b) (hl : ∀ g, Z' g → g < W.heap.size) (hf : ∀ g, Fz g → ¬ Z' g)
    (hp : ∀ g, vp.ownBlock = some g → ¬ Z' g) (ho : ∀ g, vo.ownBlock = some g → ¬ Z' g) (hw : ∀ g, vw.ownBlock = some g → ¬ Z' g) : Rest TE TW Z' b Fz vo vw vp us st W :=
  ⟨hb, h.bl, hl, fun g hg => ⟨hf g hg, (h.fl g hg).2⟩, h.ul, h.uw, ⟨h.rp.1, fun g hg => ⟨hp g hg, (h.rp.2 g hg).2⟩⟩, ⟨h.ro.1, fun g hg => ⟨⟨ho g hg, (h.ro.2 g hg).1.2⟩, (h.ro.2 g hg).2⟩⟩, ⟨h.rw.1, fun g hg => ⟨⟨⟨hw g hg, (h.rw.2 g hg).1.1.2⟩, (h.rw.2 g hg).1.2⟩, (h.rw.2 g hg).2⟩⟩⟩

/-- tok's reader -/
def Rdr (Z : Nat → Prop) (b : Nat) (st : St) (cu : Nat) (bg : Bool) (W : World) : Prop :=
  ∃ Fz vo vw vp us, W.heap[b]? = some (.cells #[vo, .int .i64 st.line, .bool st.blank, vw, .int .i64 cu, .bool bg, vp] 66 (0, 0)) ∧ Rest 32 37 Z b Fz vo vw vp us st W
end Tk
end Go.Proofs.Yticljagcigiejaa
