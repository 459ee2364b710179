/- What reads as entries, entry by entry; known. -/
import Derived.Test.YticljagcigiejaaTkN
namespace Go.Proofs.Yticljagcigiejaa
open Go.RowKit Go.Shelf
set_option maxRecDepth 100000

namespace Tk
theorem cellsE_get : ∀ (es : List En) (us : List Value) (i : Nat) (h : i < es.length) (h' : i < us.length), (cellsE es us)[i * 3]? = some (.int .i64 es[i].line) ∧ (cellsE es us)[i * 3 + 1]? = some (.bool es[i].blank) ∧ (cellsE es us)[i * 3 + 2]? = some us[i]
  | [], _, i, h, _ => by simp at h
  | _ :: _, [], _, _, h => by simp at h
  | x :: es, u :: us, 0, _, _ => by simp [cellsE]
  | x :: es, u :: us, i + 1, h, h' => by
    have := cellsE_get es us i (by simpa using h) (by simpa using h')
    have e : cellsE (x :: es) (u :: us) = .int .i64 x.line :: .bool x.blank :: u :: cellsE es us := by simp [cellsE]
    rw [e, show (i + 1) * 3 = i * 3 + 1 + 1 + 1 by omega]
    simpa using this
theorem cellsW_get : ∀ (ws : List Wd) (j : Nat) (h : j < ws.length), (cellsW ws)[j * 2]? = some (S ws[j].1) ∧ (cellsW ws)[j * 2 + 1]? = some (.bool ws[j].2)
  | [], j, h => by simp at h
  | x :: ws, 0, _ => by simp [cellsW]
  | x :: ws, j + 1, h => by
    have := cellsW_get ws j (by simpa using h)
    have e : cellsW (x :: ws) = S x.1 :: .bool x.2 :: cellsW ws := by simp [cellsW]
    rw [e, show (j + 1) * 2 = j * 2 + 1 + 1 by omega]
    simpa using this
theorem EnRd.elems {A v ens} {W : World} (h : EnRd A v ens W) : ∃ o cap, v = .slice o ens.length cap ∧ ens.length ≤ cap ∧ cap ≤ 9223372036854775807 ∧ ∀ i (hi : i < ens.length), ∃ g u, o = some ⟨g, 0, none⟩ ∧ W.cell? ⟨g, i * 3, none⟩ = some (.int .i64 (ens[i].line : Int)) ∧ W.cell? ⟨g, i * 3 + 1, none⟩ = some (.bool ens[i].blank) ∧ W.cell? ⟨g, i * 3 + 2, none⟩ = some u ∧ WdRd A u ens[i].words W := by
  obtain ⟨us, h1, h2, h3⟩ := h
  rcases h3 with ⟨rfl, rfl⟩ | ⟨g, cap, rfl, e2, e3, e0, e4, e5⟩
  · exact ⟨none, 0, rfl, Nat.zero_le _, by omega, fun i hi => by simp at hi⟩
  · refine ⟨_, cap, rfl, e2, by unfold maxLen at e3; omega, fun i hi => ⟨g, us[i]'(by omega), rfl, ?_, ?_, ?_, h2 i (by omega) hi⟩⟩
    all_goals
      obtain ⟨q1, q2, q3⟩ := cellsE_get ens us i hi (by omega)
    · obtain ⟨hl, he⟩ := List.getElem?_eq_some_iff.1 q1
      rw [e5 _ hl, he]
    · obtain ⟨hl, he⟩ := List.getElem?_eq_some_iff.1 q2
      rw [e5 _ hl, he]
    · obtain ⟨hl, he⟩ := List.getElem?_eq_some_iff.1 q3
      rw [e5 _ hl, he]
theorem WdRd.elems {A u ws} {W : World} (h : WdRd A u ws W) : ∃ o cap, u = .slice o ws.length cap ∧ ws.length ≤ cap ∧ cap ≤ 9223372036854775807 ∧ ∀ j (hj : j < ws.length), ∃ g, o = some ⟨g, 0, none⟩ ∧ W.cell? ⟨g, j * 2, none⟩ = some (S ws[j].1) ∧ W.cell? ⟨g, j * 2 + 1, none⟩ = some (.bool ws[j].2) := by
  rcases h with ⟨rfl, rfl⟩ | ⟨g, cap, rfl, e2, e3, e0, e4, e5⟩
  · exact ⟨none, 0, rfl, Nat.zero_le _, by omega, fun i hi => by simp at hi⟩
  · refine ⟨_, cap, rfl, e2, by unfold maxLen at e3; omega, fun j hj => ⟨g, rfl, ?_, ?_⟩⟩
    all_goals
      obtain ⟨q1, q2⟩ := cellsW_get ws j hj
    · obtain ⟨hl, he⟩ := List.getElem?_eq_some_iff.1 q1
      rw [e5 _ hl, he]
    · obtain ⟨hl, he⟩ := List.getElem?_eq_some_iff.1 q2
      rw [e5 _ hl, he]
theorem kn1 : entries [59, 32, 97, 108, 108, 10, 32, 97, 32, 40, 32, 34, 98, 59, 99, 34, 10, 32, 100, 32, 41, 32, 101, 32, 59, 32, 120, 10, 102, 92, 59, 103, 10] = ([⟨2, true, [([97], false), ([98, 59, 99], true), ([100], false), ([101], false)]⟩, ⟨4, false, [([102, 92, 59, 103], false)]⟩], 0, 0) := by kernel_rfl
theorem kn2 : entries [97, 10, 34, 98, 10] = ([], 2, 2) := by kernel_rfl
theorem kn3 : entries [97, 32, 40, 10, 40, 10] = ([], 1, 2) := by kernel_rfl
end Tk
theorem EntP.out {s w e w'} {ens : List Tk.En} {n : Nat} {z : Int} (hs : Tk.entries s = (ens, n, z)) (h : EntP s w e w') : ∃ v, e = .returned (.tuple #[v, .int .i64 n, .int .i64 z]) ∧ Tk.EnRd (fun _ => True) v ens w' ∧ Below w.heap.size w w' := by
  unfold EntP at h; rw [hs] at h; exact h

set_option maxHeartbeats 2000000 in
theorem tknown_any (w : World) : Calls Try.prog 10 #[] w fun e w' => e = .returned (.bool true) ∧ Below w.heap.size w w' := by
  have H1 := Lib.hid Tk.kn1
  have H2 := Lib.hid Tk.kn2
  have H3 := Lib.hid Tk.kn3
  go_enter Try.func10, Try.ntmps10
  go_wp2_with fail
  refine (tEntries_any [59, 32, 97, 108, 108, 10, 32, 97, 32, 40, 32, 34, 98, 59, 99, 34, 10, 32, 100, 32, 41, 32, 101, 32, 59, 32, 120, 10, 102, 92, 59, 103, 10] _ (by decide)).mono ?_
  intro e w1 h1
  obtain ⟨v1, rfl, hr1, b1⟩ := EntP.out H1.out h1
  clear h1
  obtain ⟨o1, cap1, rfl, l1, l2, _⟩ := id hr1.elems
  have HR1 := Lib.hid hr1
  clear hr1
  simp only [List.length_cons, List.length_nil, Nat.zero_add, Nat.reduceAdd] at l1 ⊢
  go_wp2_with fail
  refine (tEntries_any [97, 10, 34, 98, 10] _ (by decide)).mono ?_
  intro e w2 h2
  obtain ⟨v2, rfl, hr2, b2⟩ := EntP.out H2.out h2
  replace HR1 := Lib.hid (HR1.out.below b2)
  replace b2 : Below w.heap.size w w2 := b1.trans (b2.mono b1.size)
  clear h2 hr2 b1
  go_wp2_with fail
  refine (tEntries_any [97, 32, 40, 10, 40, 10] _ (by decide)).mono ?_
  intro e w3 h3
  obtain ⟨v3, rfl, hr3, b3⟩ := EntP.out H3.out h3
  have hr1 := HR1.out.below b3
  replace b3 : Below w.heap.size w w3 := b2.trans (b3.mono b2.size)
  clear h3 hr3 b2 HR1
  obtain ⟨o, cap, hv, _, _, hel⟩ := hr1.elems
  cases hv
  obtain ⟨g, u, rfl, c0, c1, c2, hw1⟩ := hel 0 (by decide)
  obtain ⟨g', u', hg, c3, c4, c5, hw2⟩ := hel 1 (by decide)
  cases hg
  obtain ⟨oa, ca, rfl, m1, m2, hea⟩ := hw1.elems
  obtain ⟨ob, cb, rfl, m3, m4, heb⟩ := hw2.elems
  obtain ⟨ga, rfl, d0, d1⟩ := hea 0 (by decide)
  obtain ⟨ga', hga, d2, d3⟩ := hea 1 (by decide)
  cases hga
  obtain ⟨ga', hga, d4, d5⟩ := hea 2 (by decide)
  cases hga
  obtain ⟨gb, rfl, f0, f1⟩ := heb 0 (by decide)
  clear hea heb hel hw1 hw2 hr1
  simp at c0 c1 c2 c3 c4 c5 d0 d1 d2 d3 d4 d5 f0 f1 m1 m3
  go_wp2_with fail
  go_ret
  exact ⟨rfl, b3⟩
end Go.Proofs.Yticljagcigiejaa
