/- The walk of TokAny. -/
import Derived.Test.YticljagcigiejaaTkO
namespace Go.Proofs.Yticljagcigiejaa
open Go.RowKit Go.Shelf
set_option maxRecDepth 100000

set_option maxHeartbeats 2000000 in
theorem walkTokAny (s : List UInt8) (w : World) (hs : s.length ≤ maxLen) :
    Calls Try.prog 3 #[S s] w fun e w' => e = .returned (.bool true) ∧ Below w.heap.size w w' := by
  unfold maxLen at hs
  by_cases h600 : 600 < s.length
  · have h' : 600 < (s.length : Int) := by omega
    go_enter Try.func3, Try.ntmps3
    go_wp2_with fail
    refine (tknown_any _).mono ?_
    rintro e w1 ⟨rfl, b1⟩
    go_wp2_with fail
    go_ret
    exact ⟨rfl, b1⟩
  have h' : (s.length : Int) ≤ 600 := by omega
  obtain ⟨⟨ens, n, z⟩, hent⟩ : ∃ p, Tk.entries s = p := ⟨_, rfl⟩
  have HE := Lib.hid hent
  clear hent
  refine (callsIn_wide (n := 0)).1 ?_
  refine callsIn_of_wp Try.func3 rfl trivial ?_ rfl
  simp only [Try.ntmps3, List.size_toArray, List.length_cons, List.length_nil, Nat.reduceAdd, Nat.reduceSub, Array.replicate_succ, Array.replicate_zero, List.push_toArray, List.append_toArray, List.nil_append, List.cons_append]
  gi_wp2_with fail
  refine (callsIn_wide.2 (tknown_any _)).mono ?_
  rintro e w1 ⟨rfl, b1⟩
  gi_wp2_with fail
  refine (callsIn_wide.2 (tEntries_any s _ (by omega))).mono ?_
  intro e w2 h2
  obtain ⟨v2, rfl, hr2, b2⟩ := EntP.out HE.out h2
  replace b2 : Below w.heap.size w w2 := b1.trans (b2.mono b1.size)
  clear h2 b1
  gi_wp2_with fail
  refine (callsIn_wide.2 (rEntries_any s _ (by omega))).mono ?_
  intro e w3 h3
  obtain ⟨v3, rfl, hr3, b3⟩ := EntP.out HE.out h3
  replace hr2 := hr2.below b3
  replace b3 : Below w.heap.size w w3 := b2.trans (b3.mono b2.size)
  clear h3 b2
  obtain ⟨o2, c2, rfl, l2, m2, _⟩ := id hr2.elems
  obtain ⟨o3, c3, rfl, l3, m3, _⟩ := id hr3.elems
  have HR2 := Lib.hid hr2
  have HR3 := Lib.hid hr3
  have hl2 : (ens.length : Int) ≤ 9223372036854775807 := by omega
  clear hr2 hr3
  gi_wp2_with fail
  gi_loopw [9] (fun iv wr => ∃ i : Nat, i ≤ ens.length ∧ iv = .int .i64 i ∧ Below w3.heap.size w3 wr) (fun iv _ => ens.length - (intOf iv).toNat)
  case atStart => exact ⟨0, Nat.zero_le _, rfl, Below.refl _ _⟩
  case round =>
    obtain ⟨i, hi, rfl, hb⟩ := hrel
    by_cases hlt : i < ens.length
    · have hlt' : (i : Int) < ens.length := by omega
      obtain ⟨oa, ca, hva, _, _, hea⟩ := (HR2.out.below hb).elems
      obtain ⟨ob, cb, hvb, _, _, heb⟩ := (HR3.out.below hb).elems
      cases hva
      cases hvb
      obtain ⟨g, u, rfl, x0, x1, x2, hwu⟩ := hea i hlt
      obtain ⟨g', u', rfl, y0, y1, y2, hwu'⟩ := heb i hlt
      obtain ⟨ou, cu, rfl, lu, mu, _⟩ := id hwu.elems
      obtain ⟨ou', cu', rfl, lu', mu', _⟩ := id hwu'.elems
      have HU := Lib.hid hwu
      have HU' := Lib.hid hwu'
      clear hwu hwu' hea heb
      gi_wp2_with fail
      refine drawnH [4, 9, 11, 12, 13, 14, 15, 16, 17, 18, 19, 20, 21, 22, 23, 24, 25, 26, 27, 28, 29, 30, 31, 32, 33, 34, 35, 36, 37, 38] (fun w' => w'.cell? ⟨g, i * 3, none⟩ = some (.int .i64 (ens[i].line : Int)) ∧ w'.cell? ⟨g, i * 3 + 1, none⟩ = some (.bool ens[i].blank) ∧ w'.cell? ⟨g, i * 3 + 2, none⟩ = some (.slice ou ens[i].words.length cu) ∧
        w'.cell? ⟨g', i * 3, none⟩ = some (.int .i64 (ens[i].line : Int)) ∧ w'.cell? ⟨g', i * 3 + 1, none⟩ = some (.bool ens[i].blank) ∧ w'.cell? ⟨g', i * 3 + 2, none⟩ = some (.slice ou' ens[i].words.length cu')) 39 rfl (by kernel_rfl) ?_
      intro w' hw'
      have hS : w'.cell? ⟨g, i * 3, none⟩ = some (.int .i64 (ens[i].line : Int)) ∧ w'.cell? ⟨g, i * 3 + 1, none⟩ = some (.bool ens[i].blank) ∧ w'.cell? ⟨g, i * 3 + 2, none⟩ = some (.slice ou ens[i].words.length cu) ∧
        w'.cell? ⟨g', i * 3, none⟩ = some (.int .i64 (ens[i].line : Int)) ∧ w'.cell? ⟨g', i * 3 + 1, none⟩ = some (.bool ens[i].blank) ∧ w'.cell? ⟨g', i * 3 + 2, none⟩ = some (.slice ou' ens[i].words.length cu') := by subst hw'; exact ⟨x0, x1, x2, y0, y1, y2⟩
      have hb' : Below w3.heap.size w3 w' := by subst hw'; exact hb.drew
      replace HU := Lib.hid (show Tk.WdRd (fun _ => True) (.slice ou ens[i].words.length cu) ens[i].words w' by subst hw'; exact HU.out.kept (fun _ h => h) (Nat.le_refl _) (fun _ _ _ => rfl))
      replace HU' := Lib.hid (show Tk.WdRd (fun _ => True) (.slice ou' ens[i].words.length cu') ens[i].words w' by subst hw'; exact HU'.out.kept (fun _ h => h) (Nat.le_refl _) (fun _ _ _ => rfl))
      clear hw' x0 x1 x2 y0 y1 y2
      refine takeP 0 (v := ?pav0) (fun _ => trivial) (by rfl) (by kernel_rfl) (.inl ⟨by kernel_rfl, fun w1 _ => ?pay0⟩) ?_
      case pay0 => (go_simp; try first | rfl | (rw [if_pos (by omega)]) | (rw [if_neg (by omega)]) | (rw [if_neg (by simp; omega)]) | (split <;> first | (exfalso; omega) | rfl))
      refine takeP 1 (v := ?pav1) (fun _ => trivial) (by rfl) (by kernel_rfl) (.inl ⟨by kernel_rfl, fun w1 _ => ?pay1⟩) ?_
      case pay1 => (go_simp; try first | rfl | (rw [if_pos (by omega)]) | (rw [if_neg (by omega)]) | (rw [if_neg (by simp; omega)]) | (split <;> first | (exfalso; omega) | rfl))
      refine takeP 2 (v := ?pav2) (fun _ => trivial) (by rfl) (by kernel_rfl) (.inl ⟨by kernel_rfl, fun w1 _ => ?pay2⟩) ?_
      case pay2 => (go_simp; try first | rfl | (rw [if_pos (by omega)]) | (rw [if_neg (by omega)]) | (rw [if_neg (by simp; omega)]) | (split <;> first | (exfalso; omega) | rfl))
      refine takeP 3 (v := ?pav3) (fun _ => trivial) (by rfl) (by kernel_rfl) (.inl ⟨by kernel_rfl, fun w1 _ => ?pay3⟩) ?_
      case pay3 => (go_simp; try first | rfl | (rw [if_pos (by omega)]) | (rw [if_neg (by omega)]) | (rw [if_neg (by simp; omega)]) | (split <;> first | (exfalso; omega) | rfl))
      refine takeP 5 (v := ?pav5) (fun _ => trivial) (by rfl) (by kernel_rfl) (.inl ⟨by kernel_rfl, fun w1 _ => ?pay5⟩) ?_
      case pay5 => (go_simp; try first | rfl | (rw [if_pos (by omega)]) | (rw [if_neg (by omega)]) | (rw [if_neg (by simp; omega)]) | (split <;> first | (exfalso; omega) | rfl))
      refine takeP 6 (v := ?pav6) (fun _ => trivial) (by rfl) (by kernel_rfl) (.inl ⟨by kernel_rfl, fun w1 _ => ?pay6⟩) ?_
      case pay6 => (go_simp; try first | rfl | (rw [if_pos (by omega)]) | (rw [if_neg (by omega)]) | (rw [if_neg (by simp; omega)]) | (split <;> first | (exfalso; omega) | rfl))
      refine takeP 7 (v := ?pav7) (fun _ => trivial) (by rfl) (by kernel_rfl) (.inl ⟨by kernel_rfl, fun w1 _ => ?pay7⟩) ?_
      case pay7 => (go_simp; try first | rfl | (rw [if_pos (by omega)]) | (rw [if_neg (by omega)]) | (rw [if_neg (by simp; omega)]) | (split <;> first | (exfalso; omega) | rfl))
      refine takeP 8 (v := ?pav8) (fun _ => trivial) (by rfl) (by kernel_rfl) (.inl ⟨by kernel_rfl, fun w1 _ => ?pay8⟩) ?_
      case pay8 => (go_simp; try first | rfl | (rw [if_pos (by omega)]) | (rw [if_neg (by omega)]) | (rw [if_neg (by simp; omega)]) | (split <;> first | (exfalso; omega) | rfl))
      refine takeH 4 (v := ?pav4) (fun _ => trivial) (by rfl) (by kernel_rfl) hS (.inl ⟨by kernel_rfl, fun w1 ⟨a0, a1, a2, a3, a4, a5⟩ => ?pay4⟩) ?_
      case pay4 => (go_simp; try first | rfl | (rw [if_pos (by omega)]) | (rw [if_neg (by omega)]) | (rw [if_neg (by simp; omega)]) | (split <;> first | (exfalso; omega) | rfl))
      refine takeH 9 (v := ?pav9) (fun _ => trivial) (by rfl) (by kernel_rfl) hS (.inl ⟨by kernel_rfl, fun w1 ⟨a0, a1, a2, a3, a4, a5⟩ => ?pay9⟩) ?_
      case pay9 => (go_simp; try first | rfl | (rw [if_pos (by omega)]) | (rw [if_neg (by omega)]) | (rw [if_neg (by simp; omega)]) | (split <;> first | (exfalso; omega) | rfl))
      refine takeP 10 (v := ?pav10) (fun _ => trivial) (by rfl) (by kernel_rfl) (.inl ⟨by kernel_rfl, fun w1 _ => ?pay10⟩) ?_
      case pay10 => (go_simp; try first | rfl | (rw [if_pos (by omega)]) | (rw [if_neg (by omega)]) | (rw [if_neg (by simp; omega)]) | (split <;> first | (exfalso; omega) | rfl))
      simp only [Act.put, List.setIfInBounds_toArray, List.set_cons_succ, List.set_cons_zero]
      refine takeH 11 (v := ?pav11) (fun _ => trivial) (by rfl) (by kernel_rfl) hS (.inl ⟨by kernel_rfl, fun w1 ⟨a0, a1, a2, a3, a4, a5⟩ => ?pay11⟩) ?_
      case pay11 => (go_simp; try first | rfl | (rw [if_pos (by omega)]) | (rw [if_neg (by omega)]) | (rw [if_neg (by simp; omega)]) | (split <;> first | (exfalso; omega) | rfl))
      refine takeH 12 (v := ?pav12) (fun _ => trivial) (by rfl) (by kernel_rfl) hS (.inl ⟨by kernel_rfl, fun w1 ⟨a0, a1, a2, a3, a4, a5⟩ => ?pay12⟩) ?_
      case pay12 => (go_simp; try first | rfl | (rw [if_pos (by omega)]) | (rw [if_neg (by omega)]) | (rw [if_neg (by simp; omega)]) | (split <;> first | (exfalso; omega) | rfl))
      refine takeH 13 (v := ?pav13) (fun _ => trivial) (by rfl) (by kernel_rfl) hS (.inl ⟨by kernel_rfl, fun w1 ⟨a0, a1, a2, a3, a4, a5⟩ => ?pay13⟩) ?_
      case pay13 => (go_simp; try first | rfl | (rw [if_pos (by omega)]) | (rw [if_neg (by omega)]) | (rw [if_neg (by simp; omega)]) | (split <;> first | (exfalso; omega) | rfl))
      refine takeH 14 (v := ?pav14) (fun _ => trivial) (by rfl) (by kernel_rfl) hS (.inl ⟨by kernel_rfl, fun w1 ⟨a0, a1, a2, a3, a4, a5⟩ => ?pay14⟩) ?_
      case pay14 => (go_simp; try first | rfl | (rw [if_pos (by omega)]) | (rw [if_neg (by omega)]) | (rw [if_neg (by simp; omega)]) | (split <;> first | (exfalso; omega) | rfl))
      refine takeH 15 (v := ?pav15) (fun _ => trivial) (by rfl) (by kernel_rfl) hS (.inl ⟨by kernel_rfl, fun w1 ⟨a0, a1, a2, a3, a4, a5⟩ => ?pay15⟩) ?_
      case pay15 => (go_simp; try first | rfl | (rw [if_pos (by omega)]) | (rw [if_neg (by omega)]) | (rw [if_neg (by simp; omega)]) | (split <;> first | (exfalso; omega) | rfl))
      refine takeH 17 (v := ?pav17) (fun _ => trivial) (by rfl) (by kernel_rfl) hS (.inl ⟨by kernel_rfl, fun w1 ⟨a0, a1, a2, a3, a4, a5⟩ => ?pay17⟩) ?_
      case pay17 => (go_simp; try first | rfl | (rw [if_pos (by omega)]) | (rw [if_neg (by omega)]) | (rw [if_neg (by simp; omega)]) | (split <;> first | (exfalso; omega) | rfl))
      refine takeH 18 (v := ?pav18) (fun _ => trivial) (by rfl) (by kernel_rfl) hS (.inl ⟨by kernel_rfl, fun w1 ⟨a0, a1, a2, a3, a4, a5⟩ => ?pay18⟩) ?_
      case pay18 => (go_simp; try first | rfl | (rw [if_pos (by omega)]) | (rw [if_neg (by omega)]) | (rw [if_neg (by simp; omega)]) | (split <;> first | (exfalso; omega) | rfl))
      refine takeH 19 (v := ?pav19) (fun _ => trivial) (by rfl) (by kernel_rfl) hS (.inl ⟨by kernel_rfl, fun w1 ⟨a0, a1, a2, a3, a4, a5⟩ => ?pay19⟩) ?_
      case pay19 => (go_simp; try first | rfl | (rw [if_pos (by omega)]) | (rw [if_neg (by omega)]) | (rw [if_neg (by simp; omega)]) | (split <;> first | (exfalso; omega) | rfl))
      refine takeH 20 (v := ?pav20) (fun _ => trivial) (by rfl) (by kernel_rfl) hS (.inl ⟨by kernel_rfl, fun w1 ⟨a0, a1, a2, a3, a4, a5⟩ => ?pay20⟩) ?_
      case pay20 => (go_simp; try first | rfl | (rw [if_pos (by omega)]) | (rw [if_neg (by omega)]) | (rw [if_neg (by simp; omega)]) | (split <;> first | (exfalso; omega) | rfl))
      simp only [Act.put, List.setIfInBounds_toArray, List.set_cons_succ, List.set_cons_zero]
      refine takeH 16 (v := ?pav16) (fun _ => trivial) (by rfl) (by kernel_rfl) hS (.inl ⟨by kernel_rfl, fun w1 ⟨a0, a1, a2, a3, a4, a5⟩ => ?pay16⟩) ?_
      case pay16 => (go_simp; try first | rfl | (rw [if_pos (by omega)]) | (rw [if_neg (by omega)]) | (rw [if_neg (by simp; omega)]) | (split <;> first | (exfalso; omega) | rfl))
      refine takeH 21 (v := ?pav21) (fun _ => trivial) (by rfl) (by kernel_rfl) hS (.inl ⟨by kernel_rfl, fun w1 ⟨a0, a1, a2, a3, a4, a5⟩ => ?pay21⟩) ?_
      case pay21 => (go_simp; try first | rfl | (rw [if_pos (by omega)]) | (rw [if_neg (by omega)]) | (rw [if_neg (by simp; omega)]) | (split <;> first | (exfalso; omega) | rfl))
      refine takeH 22 (v := ?pav22) (fun _ => trivial) (by rfl) (by kernel_rfl) hS (.inl ⟨by kernel_rfl, fun w1 ⟨a0, a1, a2, a3, a4, a5⟩ => ?pay22⟩) ?_
      case pay22 => (go_simp; try first | rfl | (rw [if_pos (by omega)]) | (rw [if_neg (by omega)]) | (rw [if_neg (by simp; omega)]) | (split <;> first | (exfalso; omega) | rfl))
      refine takeH 23 (v := ?pav23) (fun _ => trivial) (by rfl) (by kernel_rfl) hS (.inl ⟨by kernel_rfl, fun w1 ⟨a0, a1, a2, a3, a4, a5⟩ => ?pay23⟩) ?_
      case pay23 => (go_simp; try first | rfl | (rw [if_pos (by omega)]) | (rw [if_neg (by omega)]) | (rw [if_neg (by simp; omega)]) | (split <;> first | (exfalso; omega) | rfl))
      refine takeH 24 (v := ?pav24) (fun _ => trivial) (by rfl) (by kernel_rfl) hS (.inl ⟨by kernel_rfl, fun w1 ⟨a0, a1, a2, a3, a4, a5⟩ => ?pay24⟩) ?_
      case pay24 => (go_simp; try first | rfl | (rw [if_pos (by omega)]) | (rw [if_neg (by omega)]) | (rw [if_neg (by simp; omega)]) | (split <;> first | (exfalso; omega) | rfl))
      refine takeH 25 (v := ?pav25) (fun _ => trivial) (by rfl) (by kernel_rfl) hS (.inl ⟨by kernel_rfl, fun w1 ⟨a0, a1, a2, a3, a4, a5⟩ => ?pay25⟩) ?_
      case pay25 => (go_simp; try first | rfl | (rw [if_pos (by omega)]) | (rw [if_neg (by omega)]) | (rw [if_neg (by simp; omega)]) | (split <;> first | (exfalso; omega) | rfl))
      refine takeH 26 (v := ?pav26) (fun _ => trivial) (by rfl) (by kernel_rfl) hS (.inl ⟨by kernel_rfl, fun w1 ⟨a0, a1, a2, a3, a4, a5⟩ => ?pay26⟩) ?_
      case pay26 => (go_simp; try first | rfl | (rw [if_pos (by omega)]) | (rw [if_neg (by omega)]) | (rw [if_neg (by simp; omega)]) | (split <;> first | (exfalso; omega) | rfl))
      refine takeH 27 (v := ?pav27) (fun _ => trivial) (by rfl) (by kernel_rfl) hS (.inl ⟨by kernel_rfl, fun w1 ⟨a0, a1, a2, a3, a4, a5⟩ => ?pay27⟩) ?_
      case pay27 => (go_simp; try first | rfl | (rw [if_pos (by omega)]) | (rw [if_neg (by omega)]) | (rw [if_neg (by simp; omega)]) | (split <;> first | (exfalso; omega) | rfl))
      refine takeH 28 (v := ?pav28) (fun _ => trivial) (by rfl) (by kernel_rfl) hS (.inl ⟨by kernel_rfl, fun w1 ⟨a0, a1, a2, a3, a4, a5⟩ => ?pay28⟩) ?_
      case pay28 => (go_simp; try first | rfl | (rw [if_pos (by omega)]) | (rw [if_neg (by omega)]) | (rw [if_neg (by simp; omega)]) | (split <;> first | (exfalso; omega) | rfl))
      simp only [Act.put, List.setIfInBounds_toArray, List.set_cons_succ, List.set_cons_zero]
      refine takeH 31 (v := ?pav31) (fun _ => trivial) (by rfl) (by kernel_rfl) hS (.inl ⟨by kernel_rfl, fun w1 ⟨a0, a1, a2, a3, a4, a5⟩ => ?pay31⟩) ?_
      case pay31 => (go_simp; try first | rfl | (rw [if_pos (by omega)]) | (rw [if_neg (by omega)]) | (rw [if_neg (by simp; omega)]) | (split <;> first | (exfalso; omega) | rfl))
      refine takeH 32 (v := ?pav32) (fun _ => trivial) (by rfl) (by kernel_rfl) hS (.inl ⟨by kernel_rfl, fun w1 ⟨a0, a1, a2, a3, a4, a5⟩ => ?pay32⟩) ?_
      case pay32 => (go_simp; try first | rfl | (rw [if_pos (by omega)]) | (rw [if_neg (by omega)]) | (rw [if_neg (by simp; omega)]) | (split <;> first | (exfalso; omega) | rfl))
      refine takeH 33 (v := ?pav33) (fun _ => trivial) (by rfl) (by kernel_rfl) hS (.inl ⟨by kernel_rfl, fun w1 ⟨a0, a1, a2, a3, a4, a5⟩ => ?pay33⟩) ?_
      case pay33 => (go_simp; try first | rfl | (rw [if_pos (by omega)]) | (rw [if_neg (by omega)]) | (rw [if_neg (by simp; omega)]) | (split <;> first | (exfalso; omega) | rfl))
      refine takeH 34 (v := ?pav34) (fun _ => trivial) (by rfl) (by kernel_rfl) hS (.inl ⟨by kernel_rfl, fun w1 ⟨a0, a1, a2, a3, a4, a5⟩ => ?pay34⟩) ?_
      case pay34 => (go_simp; try first | rfl | (rw [if_pos (by omega)]) | (rw [if_neg (by omega)]) | (rw [if_neg (by simp; omega)]) | (split <;> first | (exfalso; omega) | rfl))
      refine takeH 29 (v := ?pav29) (fun _ => trivial) (by rfl) (by kernel_rfl) hS (.inl ⟨by kernel_rfl, fun w1 ⟨a0, a1, a2, a3, a4, a5⟩ => ?pay29⟩) ?_
      case pay29 => (go_simp; try first | rfl | (rw [if_pos (by omega)]) | (rw [if_neg (by omega)]) | (rw [if_neg (by simp; omega)]) | (split <;> first | (exfalso; omega) | rfl))
      refine takeH 30 (v := ?pav30) (fun _ => trivial) (by rfl) (by kernel_rfl) hS (.inl ⟨by kernel_rfl, fun w1 ⟨a0, a1, a2, a3, a4, a5⟩ => ?pay30⟩) ?_
      case pay30 => (go_simp; try first | rfl | (rw [if_pos (by omega)]) | (rw [if_neg (by omega)]) | (rw [if_neg (by simp; omega)]) | (split <;> first | (exfalso; omega) | rfl))
      refine takeH 35 (v := ?pav35) (fun _ => trivial) (by rfl) (by kernel_rfl) hS (.inl ⟨by kernel_rfl, fun w1 ⟨a0, a1, a2, a3, a4, a5⟩ => ?pay35⟩) ?_
      case pay35 => (go_simp; try first | rfl | (rw [if_pos (by omega)]) | (rw [if_neg (by omega)]) | (rw [if_neg (by simp; omega)]) | (split <;> first | (exfalso; omega) | rfl))
      refine takeH 36 (v := ?pav36) (fun _ => trivial) (by rfl) (by kernel_rfl) hS (.inl ⟨by kernel_rfl, fun w1 ⟨a0, a1, a2, a3, a4, a5⟩ => ?pay36⟩) ?_
      case pay36 => (go_simp; try first | rfl | (rw [if_pos (by omega)]) | (rw [if_neg (by omega)]) | (rw [if_neg (by simp; omega)]) | (split <;> first | (exfalso; omega) | rfl))
      refine takeH 37 (v := ?pav37) (fun _ => trivial) (by rfl) (by kernel_rfl) hS (.inl ⟨by kernel_rfl, fun w1 ⟨a0, a1, a2, a3, a4, a5⟩ => ?pay37⟩) ?_
      case pay37 => (go_simp; try first | rfl | (rw [if_pos (by omega)]) | (rw [if_neg (by omega)]) | (rw [if_neg (by simp; omega)]) | (split <;> first | (exfalso; omega) | rfl))
      simp only [Act.put, List.setIfInBounds_toArray, List.set_cons_succ, List.set_cons_zero]
      refine takeH 38 (v := ?pav38) (fun _ => trivial) (by rfl) (by kernel_rfl) hS (.inl ⟨by kernel_rfl, fun w1 ⟨a0, a1, a2, a3, a4, a5⟩ => ?pay38⟩) ?_
      case pay38 => (go_simp; try first | rfl | (rw [if_pos (by omega)]) | (rw [if_neg (by omega)]) | (rw [if_neg (by simp; omega)]) | (split <;> first | (exfalso; omega) | rfl))
      simp only [Act.put, List.setIfInBounds_toArray, List.set_cons_succ, List.set_cons_zero]
      refine doneH (by kernel_rfl) ?_
      clear hS
      gi_wp2_with fail
      gi_loopw [10] (fun jv wr => ∃ j : Nat, j ≤ ens[i].words.length ∧ jv = .int .i64 j ∧ Below w3.heap.size w3 wr) (fun jv _ => ens[i].words.length - (intOf jv).toNat)
      case atStart => exact ⟨0, Nat.zero_le _, rfl, hb'⟩
      case round =>
        clear hb hb' HU HU'
        obtain ⟨j, hj, rfl, hb⟩ := hrel
        obtain ⟨oa, ca, hva, _, _, hea⟩ := (HR2.out.below hb).elems
        obtain ⟨ob, cb, hvb, _, _, heb⟩ := (HR3.out.below hb).elems
        cases hva
        cases hvb
        obtain ⟨g1, u, hg1, _, _, x2, hwu⟩ := hea i hlt
        cases hg1
        obtain ⟨g1, u', hg1, _, _, y2, hwu'⟩ := heb i hlt
        cases hg1
        clear hea heb
        obtain ⟨ou, cu, rfl, lu, mu, hwa⟩ := hwu.elems
        obtain ⟨ou', cu', rfl, lu', mu', hwb⟩ := hwu'.elems
        clear hwu hwu'
        by_cases hjt : j < ens[i].words.length
        · have hjt' : (j : Int) < ens[i].words.length := by omega
          obtain ⟨h, rfl, z0, z1⟩ := hwa j hjt
          obtain ⟨h', rfl, z2, z3⟩ := hwb j hjt
          clear hwa hwb
          have hjm : (j : Int) + 1 ≤ 9223372036854775807 := by omega
          gi_wp2_with fail
          refine drawnH [4, 7, 8, 13, 15, 16, 17, 18, 19, 20, 21, 22, 23, 24, 25, 26, 27, 28, 29, 30, 31, 32, 33, 34, 35, 36, 37, 38, 39] (fun w' => w'.cell? ⟨g, i * 3 + 2, none⟩ = some (.slice (some ⟨h, 0, none⟩) ens[i].words.length cu) ∧ w'.cell? ⟨g', i * 3 + 2, none⟩ = some (.slice (some ⟨h', 0, none⟩) ens[i].words.length cu') ∧ w'.cell? ⟨h, j * 2, none⟩ = some (S ens[i].words[j].1) ∧ w'.cell? ⟨h, j * 2 + 1, none⟩ = some (.bool ens[i].words[j].2) ∧ w'.cell? ⟨h', j * 2, none⟩ = some (S ens[i].words[j].1) ∧ w'.cell? ⟨h', j * 2 + 1, none⟩ = some (.bool ens[i].words[j].2)) 40 rfl (by kernel_rfl) ?_
          intro w' hw'
          have hS : w'.cell? ⟨g, i * 3 + 2, none⟩ = some (.slice (some ⟨h, 0, none⟩) ens[i].words.length cu) ∧ w'.cell? ⟨g', i * 3 + 2, none⟩ = some (.slice (some ⟨h', 0, none⟩) ens[i].words.length cu') ∧ w'.cell? ⟨h, j * 2, none⟩ = some (S ens[i].words[j].1) ∧ w'.cell? ⟨h, j * 2 + 1, none⟩ = some (.bool ens[i].words[j].2) ∧ w'.cell? ⟨h', j * 2, none⟩ = some (S ens[i].words[j].1) ∧ w'.cell? ⟨h', j * 2 + 1, none⟩ = some (.bool ens[i].words[j].2) := by subst hw'; exact ⟨x2, y2, z0, z1, z2, z3⟩
          have hb' : Below w3.heap.size w3 w' := by subst hw'; exact hb.drew
          clear hw' x2 y2 z0 z1 z2 z3
          refine takeP 0 (v := ?pbv0) (fun _ => trivial) (by rfl) (by kernel_rfl) (.inl ⟨by kernel_rfl, fun w1 _ => ?pby0⟩) ?_
          case pby0 => (go_simp; try first | rfl | (rw [if_pos (by omega)]) | (rw [if_neg (by omega)]) | (rw [if_neg (by simp; omega)]) | (split <;> first | (exfalso; omega) | rfl))
          refine takeP 1 (v := ?pbv1) (fun _ => trivial) (by rfl) (by kernel_rfl) (.inl ⟨by kernel_rfl, fun w1 _ => ?pby1⟩) ?_
          case pby1 => (go_simp; try first | rfl | (rw [if_pos (by omega)]) | (rw [if_neg (by omega)]) | (rw [if_neg (by simp; omega)]) | (split <;> first | (exfalso; omega) | rfl))
          refine takeP 2 (v := ?pbv2) (fun _ => trivial) (by rfl) (by kernel_rfl) (.inl ⟨by kernel_rfl, fun w1 _ => ?pby2⟩) ?_
          case pby2 => (go_simp; try first | rfl | (rw [if_pos (by omega)]) | (rw [if_neg (by omega)]) | (rw [if_neg (by simp; omega)]) | (split <;> first | (exfalso; omega) | rfl))
          refine takeP 3 (v := ?pbv3) (fun _ => trivial) (by rfl) (by kernel_rfl) (.inl ⟨by kernel_rfl, fun w1 _ => ?pby3⟩) ?_
          case pby3 => (go_simp; try first | rfl | (rw [if_pos (by omega)]) | (rw [if_neg (by omega)]) | (rw [if_neg (by simp; omega)]) | (split <;> first | (exfalso; omega) | rfl))
          refine takeP 5 (v := ?pbv5) (fun _ => trivial) (by rfl) (by kernel_rfl) (.inl ⟨by kernel_rfl, fun w1 _ => ?pby5⟩) ?_
          case pby5 => (go_simp; try first | rfl | (rw [if_pos (by omega)]) | (rw [if_neg (by omega)]) | (rw [if_neg (by simp; omega)]) | (split <;> first | (exfalso; omega) | rfl))
          refine takeP 9 (v := ?pbv9) (fun _ => trivial) (by rfl) (by kernel_rfl) (.inl ⟨by kernel_rfl, fun w1 _ => ?pby9⟩) ?_
          case pby9 => (go_simp; try first | rfl | (rw [if_pos (by omega)]) | (rw [if_neg (by omega)]) | (rw [if_neg (by simp; omega)]) | (split <;> first | (exfalso; omega) | rfl))
          refine takeP 10 (v := ?pbv10) (fun _ => trivial) (by rfl) (by kernel_rfl) (.inl ⟨by kernel_rfl, fun w1 _ => ?pby10⟩) ?_
          case pby10 => (go_simp; try first | rfl | (rw [if_pos (by omega)]) | (rw [if_neg (by omega)]) | (rw [if_neg (by simp; omega)]) | (split <;> first | (exfalso; omega) | rfl))
          refine takeP 11 (v := ?pbv11) (fun _ => trivial) (by rfl) (by kernel_rfl) (.inl ⟨by kernel_rfl, fun w1 _ => ?pby11⟩) ?_
          case pby11 => (go_simp; try first | rfl | (rw [if_pos (by omega)]) | (rw [if_neg (by omega)]) | (rw [if_neg (by simp; omega)]) | (split <;> first | (exfalso; omega) | rfl))
          refine takeP 12 (v := ?pbv12) (fun _ => trivial) (by rfl) (by kernel_rfl) (.inl ⟨by kernel_rfl, fun w1 _ => ?pby12⟩) ?_
          case pby12 => (go_simp; try first | rfl | (rw [if_pos (by omega)]) | (rw [if_neg (by omega)]) | (rw [if_neg (by simp; omega)]) | (split <;> first | (exfalso; omega) | rfl))
          simp only [Act.put, List.setIfInBounds_toArray, List.set_cons_succ, List.set_cons_zero]
          refine takeP 14 (v := ?pbv14) (fun _ => trivial) (by rfl) (by kernel_rfl) (.inl ⟨by kernel_rfl, fun w1 _ => ?pby14⟩) ?_
          case pby14 => (go_simp; try first | rfl | (rw [if_pos (by omega)]) | (rw [if_neg (by omega)]) | (rw [if_neg (by simp; omega)]) | (split <;> first | (exfalso; omega) | rfl))
          simp only [Act.put, List.setIfInBounds_toArray, List.set_cons_succ, List.set_cons_zero]
          refine takeH 4 (v := ?pbv4) (fun _ => trivial) (by rfl) (by kernel_rfl) hS (.inl ⟨by kernel_rfl, fun w1 ⟨a0, a1, a2, a3, a4, a5⟩ => ?pby4⟩) ?_
          case pby4 => (go_simp; try first | rfl | (rw [if_pos (by omega)]) | (rw [if_neg (by omega)]) | (rw [if_neg (by simp; omega)]) | (split <;> first | (exfalso; omega) | rfl))
          refine takeP 6 (v := ?pbv6) (fun _ => trivial) (by rfl) (by kernel_rfl) (.inl ⟨by kernel_rfl, fun w1 _ => ?pby6⟩) ?_
          case pby6 => (go_simp; try first | rfl | (rw [if_pos (by omega)]) | (rw [if_neg (by omega)]) | (rw [if_neg (by simp; omega)]) | (split <;> first | (exfalso; omega) | rfl))
          refine takeH 7 (v := ?pbv7) (fun _ => trivial) (by rfl) (by kernel_rfl) hS (.inl ⟨by kernel_rfl, fun w1 ⟨a0, a1, a2, a3, a4, a5⟩ => ?pby7⟩) ?_
          case pby7 => (go_simp; try first | rfl | (rw [if_pos (by omega)]) | (rw [if_neg (by omega)]) | (rw [if_neg (by simp; omega)]) | (split <;> first | (exfalso; omega) | rfl))
          refine takeH 8 (v := ?pbv8) (fun _ => trivial) (by rfl) (by kernel_rfl) hS (.inl ⟨by kernel_rfl, fun w1 ⟨a0, a1, a2, a3, a4, a5⟩ => ?pby8⟩) ?_
          case pby8 => (go_simp; try first | rfl | (rw [if_pos (by omega)]) | (rw [if_neg (by omega)]) | (rw [if_neg (by simp; omega)]) | (split <;> first | (exfalso; omega) | rfl))
          refine takeH 13 (v := ?pbv13) (fun _ => trivial) (by rfl) (by kernel_rfl) hS (.inl ⟨by kernel_rfl, fun w1 ⟨a0, a1, a2, a3, a4, a5⟩ => ?pby13⟩) ?_
          case pby13 => (go_simp; try first | rfl | (rw [if_pos (by omega)]) | (rw [if_neg (by omega)]) | (rw [if_neg (by simp; omega)]) | (split <;> first | (exfalso; omega) | rfl))
          refine takeH 15 (v := ?pbv15) (fun _ => trivial) (by rfl) (by kernel_rfl) hS (.inl ⟨by kernel_rfl, fun w1 ⟨a0, a1, a2, a3, a4, a5⟩ => ?pby15⟩) ?_
          case pby15 => (go_simp; try first | rfl | (rw [if_pos (by omega)]) | (rw [if_neg (by omega)]) | (rw [if_neg (by simp; omega)]) | (split <;> first | (exfalso; omega) | rfl))
          refine takeH 16 (v := ?pbv16) (fun _ => trivial) (by rfl) (by kernel_rfl) hS (.inl ⟨by kernel_rfl, fun w1 ⟨a0, a1, a2, a3, a4, a5⟩ => ?pby16⟩) ?_
          case pby16 => (go_simp; try first | rfl | (rw [if_pos (by omega)]) | (rw [if_neg (by omega)]) | (rw [if_neg (by simp; omega)]) | (split <;> first | (exfalso; omega) | rfl))
          refine takeH 17 (v := ?pbv17) (fun _ => trivial) (by rfl) (by kernel_rfl) hS (.inl ⟨by kernel_rfl, fun w1 ⟨a0, a1, a2, a3, a4, a5⟩ => ?pby17⟩) ?_
          case pby17 => (go_simp; try first | rfl | (rw [if_pos (by omega)]) | (rw [if_neg (by omega)]) | (rw [if_neg (by simp; omega)]) | (split <;> first | (exfalso; omega) | rfl))
          refine takeH 18 (v := ?pbv18) (fun _ => trivial) (by rfl) (by kernel_rfl) hS (.inl ⟨by kernel_rfl, fun w1 ⟨a0, a1, a2, a3, a4, a5⟩ => ?pby18⟩) ?_
          case pby18 => (go_simp; try first | rfl | (rw [if_pos (by omega)]) | (rw [if_neg (by omega)]) | (rw [if_neg (by simp; omega)]) | (split <;> first | (exfalso; omega) | rfl))
          refine takeH 19 (v := ?pbv19) (fun _ => trivial) (by rfl) (by kernel_rfl) hS (.inl ⟨by kernel_rfl, fun w1 ⟨a0, a1, a2, a3, a4, a5⟩ => ?pby19⟩) ?_
          case pby19 => (go_simp; try first | rfl | (rw [if_pos (by omega)]) | (rw [if_neg (by omega)]) | (rw [if_neg (by simp; omega)]) | (split <;> first | (exfalso; omega) | rfl))
          refine takeH 20 (v := ?pbv20) (fun _ => trivial) (by rfl) (by kernel_rfl) hS (.inl ⟨by kernel_rfl, fun w1 ⟨a0, a1, a2, a3, a4, a5⟩ => ?pby20⟩) ?_
          case pby20 => (go_simp; try first | rfl | (rw [if_pos (by omega)]) | (rw [if_neg (by omega)]) | (rw [if_neg (by simp; omega)]) | (split <;> first | (exfalso; omega) | rfl))
          simp only [Act.put, List.setIfInBounds_toArray, List.set_cons_succ, List.set_cons_zero]
          refine takeH 21 (v := ?pbv21) (fun _ => trivial) (by rfl) (by kernel_rfl) hS (.inl ⟨by kernel_rfl, fun w1 ⟨a0, a1, a2, a3, a4, a5⟩ => ?pby21⟩) ?_
          case pby21 => (go_simp; try first | rfl | (rw [if_pos (by omega)]) | (rw [if_neg (by omega)]) | (rw [if_neg (by simp; omega)]) | (split <;> first | (exfalso; omega) | rfl))
          refine takeH 22 (v := ?pbv22) (fun _ => trivial) (by rfl) (by kernel_rfl) hS (.inl ⟨by kernel_rfl, fun w1 ⟨a0, a1, a2, a3, a4, a5⟩ => ?pby22⟩) ?_
          case pby22 => (go_simp; try first | rfl | (rw [if_pos (by omega)]) | (rw [if_neg (by omega)]) | (rw [if_neg (by simp; omega)]) | (split <;> first | (exfalso; omega) | rfl))
          refine takeH 23 (v := ?pbv23) (fun _ => trivial) (by rfl) (by kernel_rfl) hS (.inl ⟨by kernel_rfl, fun w1 ⟨a0, a1, a2, a3, a4, a5⟩ => ?pby23⟩) ?_
          case pby23 => (go_simp; try first | rfl | (rw [if_pos (by omega)]) | (rw [if_neg (by omega)]) | (rw [if_neg (by simp; omega)]) | (split <;> first | (exfalso; omega) | rfl))
          refine takeH 25 (v := ?pbv25) (fun _ => trivial) (by rfl) (by kernel_rfl) hS (.inl ⟨by kernel_rfl, fun w1 ⟨a0, a1, a2, a3, a4, a5⟩ => ?pby25⟩) ?_
          case pby25 => (go_simp; try first | rfl | (rw [if_pos (by omega)]) | (rw [if_neg (by omega)]) | (rw [if_neg (by simp; omega)]) | (split <;> first | (exfalso; omega) | rfl))
          refine takeH 29 (v := ?pbv29) (fun _ => trivial) (by rfl) (by kernel_rfl) hS (.inl ⟨by kernel_rfl, fun w1 ⟨a0, a1, a2, a3, a4, a5⟩ => ?pby29⟩) ?_
          case pby29 => (go_simp; try first | rfl | (rw [if_pos (by omega)]) | (rw [if_neg (by omega)]) | (rw [if_neg (by simp; omega)]) | (split <;> first | (exfalso; omega) | rfl))
          refine takeH 30 (v := ?pbv30) (fun _ => trivial) (by rfl) (by kernel_rfl) hS (.inl ⟨by kernel_rfl, fun w1 ⟨a0, a1, a2, a3, a4, a5⟩ => ?pby30⟩) ?_
          case pby30 => (go_simp; try first | rfl | (rw [if_pos (by omega)]) | (rw [if_neg (by omega)]) | (rw [if_neg (by simp; omega)]) | (split <;> first | (exfalso; omega) | rfl))
          refine takeH 31 (v := ?pbv31) (fun _ => trivial) (by rfl) (by kernel_rfl) hS (.inl ⟨by kernel_rfl, fun w1 ⟨a0, a1, a2, a3, a4, a5⟩ => ?pby31⟩) ?_
          case pby31 => (go_simp; try first | rfl | (rw [if_pos (by omega)]) | (rw [if_neg (by omega)]) | (rw [if_neg (by simp; omega)]) | (split <;> first | (exfalso; omega) | rfl))
          refine takeH 32 (v := ?pbv32) (fun _ => trivial) (by rfl) (by kernel_rfl) hS (.inl ⟨by kernel_rfl, fun w1 ⟨a0, a1, a2, a3, a4, a5⟩ => ?pby32⟩) ?_
          case pby32 => (go_simp; try first | rfl | (rw [if_pos (by omega)]) | (rw [if_neg (by omega)]) | (rw [if_neg (by simp; omega)]) | (split <;> first | (exfalso; omega) | rfl))
          refine takeH 34 (v := ?pbv34) (fun _ => trivial) (by rfl) (by kernel_rfl) hS (.inl ⟨by kernel_rfl, fun w1 ⟨a0, a1, a2, a3, a4, a5⟩ => ?pby34⟩) ?_
          case pby34 => (go_simp; try first | rfl | (rw [if_pos (by omega)]) | (rw [if_neg (by omega)]) | (rw [if_neg (by simp; omega)]) | (split <;> first | (exfalso; omega) | rfl))
          simp only [Act.put, List.setIfInBounds_toArray, List.set_cons_succ, List.set_cons_zero]
          refine takeH 24 (v := ?pbv24) (fun _ => trivial) (by rfl) (by kernel_rfl) hS (.inl ⟨by kernel_rfl, fun w1 ⟨a0, a1, a2, a3, a4, a5⟩ => ?pby24⟩) ?_
          case pby24 => (go_simp; try first | rfl | (rw [if_pos (by omega)]) | (rw [if_neg (by omega)]) | (rw [if_neg (by simp; omega)]) | (split <;> first | (exfalso; omega) | rfl))
          refine takeH 26 (v := ?pbv26) (fun _ => trivial) (by rfl) (by kernel_rfl) hS (.inl ⟨by kernel_rfl, fun w1 ⟨a0, a1, a2, a3, a4, a5⟩ => ?pby26⟩) ?_
          case pby26 => (go_simp; try first | rfl | (rw [if_pos (by omega)]) | (rw [if_neg (by omega)]) | (rw [if_neg (by simp; omega)]) | (split <;> first | (exfalso; omega) | rfl))
          refine takeH 27 (v := ?pbv27) (fun _ => trivial) (by rfl) (by kernel_rfl) hS (.inl ⟨by kernel_rfl, fun w1 ⟨a0, a1, a2, a3, a4, a5⟩ => ?pby27⟩) ?_
          case pby27 => (go_simp; try first | rfl | (rw [if_pos (by omega)]) | (rw [if_neg (by omega)]) | (rw [if_neg (by simp; omega)]) | (split <;> first | (exfalso; omega) | rfl))
          refine takeH 28 (v := ?pbv28) (fun _ => trivial) (by rfl) (by kernel_rfl) hS (.inl ⟨by kernel_rfl, fun w1 ⟨a0, a1, a2, a3, a4, a5⟩ => ?pby28⟩) ?_
          case pby28 => (go_simp; try first | rfl | (rw [if_pos (by omega)]) | (rw [if_neg (by omega)]) | (rw [if_neg (by simp; omega)]) | (split <;> first | (exfalso; omega) | rfl))
          refine takeH 33 (v := ?pbv33) (fun _ => trivial) (by rfl) (by kernel_rfl) hS (.inl ⟨by kernel_rfl, fun w1 ⟨a0, a1, a2, a3, a4, a5⟩ => ?pby33⟩) ?_
          case pby33 => (go_simp; try first | rfl | (rw [if_pos (by omega)]) | (rw [if_neg (by omega)]) | (rw [if_neg (by simp; omega)]) | (split <;> first | (exfalso; omega) | rfl))
          refine takeH 35 (v := ?pbv35) (fun _ => trivial) (by rfl) (by kernel_rfl) hS (.inl ⟨by kernel_rfl, fun w1 ⟨a0, a1, a2, a3, a4, a5⟩ => ?pby35⟩) ?_
          case pby35 => (go_simp; try first | rfl | (rw [if_pos (by omega)]) | (rw [if_neg (by omega)]) | (rw [if_neg (by simp; omega)]) | (split <;> first | (exfalso; omega) | rfl))
          refine takeH 36 (v := ?pbv36) (fun _ => trivial) (by rfl) (by kernel_rfl) hS (.inl ⟨by kernel_rfl, fun w1 ⟨a0, a1, a2, a3, a4, a5⟩ => ?pby36⟩) ?_
          case pby36 => (go_simp; try first | rfl | (rw [if_pos (by omega)]) | (rw [if_neg (by omega)]) | (rw [if_neg (by simp; omega)]) | (split <;> first | (exfalso; omega) | rfl))
          refine takeH 37 (v := ?pbv37) (fun _ => trivial) (by rfl) (by kernel_rfl) hS (.inl ⟨by kernel_rfl, fun w1 ⟨a0, a1, a2, a3, a4, a5⟩ => ?pby37⟩) ?_
          case pby37 => (go_simp; try first | rfl | (rw [if_pos (by omega)]) | (rw [if_neg (by omega)]) | (rw [if_neg (by simp; omega)]) | (split <;> first | (exfalso; omega) | rfl))
          refine takeH 38 (v := ?pbv38) (fun _ => trivial) (by rfl) (by kernel_rfl) hS (.inl ⟨by kernel_rfl, fun w1 ⟨a0, a1, a2, a3, a4, a5⟩ => ?pby38⟩) ?_
          case pby38 => (go_simp; try first | rfl | (rw [if_pos (by omega)]) | (rw [if_neg (by omega)]) | (rw [if_neg (by simp; omega)]) | (split <;> first | (exfalso; omega) | rfl))
          simp only [Act.put, List.setIfInBounds_toArray, List.set_cons_succ, List.set_cons_zero]
          refine takeH 39 (v := ?pbv39) (fun _ => trivial) (by rfl) (by kernel_rfl) hS (.inl ⟨by kernel_rfl, fun w1 ⟨a0, a1, a2, a3, a4, a5⟩ => ?pby39⟩) ?_
          case pby39 => (go_simp; try first | rfl | (rw [if_pos (by omega)]) | (rw [if_neg (by omega)]) | (rw [if_neg (by simp; omega)]) | (split <;> first | (exfalso; omega) | rfl))
          simp only [Act.put, List.setIfInBounds_toArray, List.set_cons_succ, List.set_cons_zero]
          try simp only [Act.put, List.setIfInBounds_toArray, List.set_cons_succ, List.set_cons_zero]
          refine doneH (by kernel_rfl) ?_
          clear hS
          gi_wp2_with fail
          exact ⟨⟨j + 1, by omega, by go_num, hb'⟩, by simp [intOf]; omega⟩
        · obtain rfl : j = ens[i].words.length := by omega
          clear hwa hwb
          have him : (i : Int) + 1 ≤ 9223372036854775807 := by omega
          clear hjt hj
          gi_wp2_with fail
          exact ⟨⟨i + 1, by omega, by go_num, hb⟩, by simp [intOf]; omega⟩
    · have hge : (ens.length : Int) ≤ i := by omega
      clear hlt
      gi_wp2_with fail
      go_ret
      exact ⟨rfl, b3.trans (hb.mono b3.size)⟩
end Go.Proofs.Yticljagcigiejaa
