/- The walk of TokBrackets. -/
import Derived.Test.YticljagcigiejaaTkT
namespace Go.Proofs.Yticljagcigiejaa
open Go.RowKit Go.Shelf
set_option maxRecDepth 100000

theorem tk_ne {c d : UInt8} {n : Nat} (h : ¬ c.toNat = n) (e : d.toNat = n := by rfl) : c ≠ d := fun e' => h (by rw [e', e])

theorem below_cell {W W' : World} (h : Below W.heap.size W W') {a : Addr} {v : Value} (c : W.cell? a = some v) : W'.cell? a = some v := (World.cell?_of_block (h.block _ (World.block_lt_of_cell? W _ c))).trans c

set_option maxHeartbeats 2000000 in
theorem walkTokBrackets (v : Value) (l : List (List UInt8)) (u : Value) (bs : List Bool) (w : World) (hv : StrRd l v w) (hu : BoolRd bs u w) :
    Calls Try.prog 5 #[v, u] w fun e w' => e = .returned (.bool true) ∧ Below w.heap.size w w' := by
  obtain ⟨o, cap, rfl, l1, l2, hcl⟩ := id hv
  obtain ⟨o', cap', rfl, l1', l2', hcb⟩ := id hu
  have HV := Lib.hid hv
  have HU := Lib.hid hu
  clear hv hu hcl hcb
  by_cases h30 : 30 < l.length
  · have h' : 30 < (l.length : Int) := by omega
    go_enter Try.func5, Try.ntmps5
    go_wp2_with fail
    refine (tknown_any _).mono ?_
    rintro e w1 ⟨rfl, b1⟩
    go_wp2_with fail
    go_ret
    exact ⟨rfl, b1⟩
  have h' : (l.length : Int) ≤ 30 := by omega
  by_cases h0 : l.length = 0
  · have h0' : ((l.length : Int) == 0) = true := by rw [h0]; rfl
    go_enter Try.func5, Try.ntmps5
    go_wp2_with fail
    refine (tknown_any _).mono ?_
    rintro e w1 ⟨rfl, b1⟩
    go_wp2_with fail
    go_ret
    exact ⟨rfl, b1⟩
  have h0' : ((l.length : Int) == 0) = false := by rw [beq_eq_false_iff_ne]; omega
  clear h30 h0
  refine (callsIn_wide (n := 0)).1 ?_
  refine callsIn_of_wp Try.func5 rfl trivial ?_ rfl
  simp only [Try.ntmps5, List.size_toArray, List.length_cons, List.length_nil, Nat.reduceAdd, Nat.reduceSub, Array.replicate_succ, Array.replicate_zero, List.push_toArray, List.append_toArray, List.nil_append, List.cons_append]
  gi_wp2_with fail
  refine (callsIn_wide.2 (tknown_any _)).mono ?_
  rintro e w1 ⟨rfl, b1⟩
  have HV1 := Lib.hid (HV.out.below b1)
  have HU1 := Lib.hid (HU.out.below b1)
  gi_wp2_with fail
  gi_loopw [5, 6] (fun sv iv wr => ∃ (t : List UInt8) (i : Nat), i ≤ l.length ∧ Hid (Tk.Laid (Tk.pr l bs) t i) ∧ Hid (∀ x ∈ l.take i, Tk.PW x) ∧ t.length ≤ 3 + 60 * i ∧ sv = S t ∧ iv = .int .i64 i ∧ w1 = wr) (fun _ iv _ => l.length - (intOf iv).toNat)
  case atStart => exact ⟨[120, 32, 40], 0, Nat.zero_le _, Lib.hid (Tk.Laid.start _), Lib.hid (fun x h => by simp at h), by simp, rfl, rfl, rfl⟩
  case round =>
    obtain ⟨t, i, hi, hlaid, hpw, htl, rfl, rfl, rfl⟩ := hrel
    by_cases hlt : i < l.length
    · have hlt' : (i : Int) < l.length := by omega
      obtain ⟨q1, q2, q3, _, _, hcl⟩ := HV1.out
      cases q3
      obtain ⟨a, rfl, _, hca0⟩ := hcl i hlt
      obtain ⟨x, hx⟩ : ∃ x, l[i] = x := ⟨_, rfl⟩
      have hca : w1.cell? (a.add i) = some (S x) := by rw [hca0, ← hx]; simp [List.getD, List.getElem?_eq_getElem hlt]
      clear hcl hca0
      have HX := Lib.hid hx
      clear hx
      by_cases h50 : 50 < x.length
      · have h50' : 50 < (x.length : Int) := by omega
        gi_wp2_with fail
        go_ret
        exact ⟨rfl, b1⟩
      have h50' : (x.length : Int) ≤ 50 := by omega
      by_cases hxe : x = []
      · subst hxe
        gi_wp2_with fail
        go_ret
        exact ⟨rfl, b1⟩
      have hxe' : x.isEmpty = false := by simpa using hxe
      have HXE := Lib.hid hxe
      clear hxe h50
      gi_wp2_with fail
      gi_loopw [7, 8] (fun jv cv wr => ∃ j : Nat, j ≤ x.length ∧ Hid (∀ c ∈ x.take j, 32 < c.toNat ∧ c ≠ 34 ∧ c ≠ 40 ∧ c ≠ 41 ∧ c ≠ 59 ∧ c ≠ 92) ∧ jv = .int .i64 j ∧ w1 = wr) (fun jv _ _ => x.length - (intOf jv).toNat)
      case atStart => exact ⟨0, Nat.zero_le _, Lib.hid (fun c h => by simp at h), rfl, rfl⟩
      case round =>
        obtain ⟨j, hj, hok, rfl, rfl⟩ := hrel
        by_cases hjt : j < x.length
        · have hjt' : (j : Int) < x.length := by omega
          gi_wp2_with fail
          all_goals first
            | (go_ret; exact ⟨rfl, b1⟩)
            | (rename_i hh
               have h92 := hh.2
               rw [beq_eq_false_iff_ne] at h92
               refine ⟨⟨j + 1, by omega, Lib.hid (fun c hc => ?_), by go_num, trivial⟩, by simp [intOf]; omega⟩
               rw [List.take_succ_eq_append_getElem hjt] at hc
               rcases List.mem_append.1 hc with h | h
               · exact hok.out c h
               · rw [List.mem_singleton.1 h]
                 exact ⟨by omega, tk_ne (n := 34) (by omega), tk_ne (n := 40) (by omega), tk_ne (n := 41) (by omega), tk_ne (n := 59) (by omega), tk_ne (n := 92) (by omega)⟩)
        · have hge : (x.length : Int) ≤ j := by omega
          have HW : Hid (Tk.PW x) := Lib.hid ⟨HXE.out, fun c hc => hok.out c (by rw [List.take_of_length_le (by omega)]; exact hc)⟩
          have HP := Lib.hid (show ∀ y ∈ l.take (i + 1), Tk.PW y from fun y hc => by
            rw [List.take_succ_eq_append_getElem hlt] at hc
            rcases List.mem_append.1 hc with h | h
            · exact hpw.out y h
            · rw [List.mem_singleton.1 h, HX.out]; exact HW.out)
          clear hjt
          by_cases hbi : i < bs.length
          · have hbi' : (i : Int) < bs.length := by omega
            obtain ⟨q1, q2, q3, _, _, hcb⟩ := HU1.out
            cases q3
            obtain ⟨a', rfl, _, hca0⟩ := hcb i hbi
            have HS := Lib.hid (Tk.Laid.step hlaid.out (Tk.pr_at l bs i hlt))
            rw [HX.out] at HS
            have hcb' : w1.cell? (a'.add i) = some (.bool (bs.getD i false)) := hca0
            clear hcb hca0 hbi
            rcases hbb : bs.getD i false with _ | _
            · rw [hbb] at HS hcb'
              clear hbb
              gi_wp2_with fail
              exact ⟨⟨t ++ x ++ [32], i + 1, by omega, HS, HP, by simp; omega, congrArg Value.string (Eq.trans (congrArg (· ++ _) (append_S t x)) (append_S (t ++ x) _)), by go_num, trivial⟩, by simp [intOf]; omega⟩
            · rw [hbb] at HS hcb'
              clear hbb
              gi_wp2_with fail
              exact ⟨⟨t ++ x ++ [32, 59, 32, 121, 10], i + 1, by omega, HS, HP, by simp; omega, congrArg Value.string (Eq.trans (congrArg (· ++ _) (append_S t x)) (append_S (t ++ x) _)), by go_num, trivial⟩, by simp [intOf]; omega⟩
          · have hbi' : (bs.length : Int) ≤ i := by omega
            have hbb : bs.getD i false = false := by simp [List.getD, List.getElem?_eq_none (show bs.length ≤ i by omega)]
            have HS := Lib.hid (Tk.Laid.step hlaid.out (Tk.pr_at l bs i hlt))
            rw [HX.out, hbb] at HS
            clear hbb hbi
            gi_wp2_with fail
            exact ⟨⟨t ++ x ++ [32], i + 1, by omega, HS, HP, by simp; omega, congrArg Value.string (Eq.trans (congrArg (· ++ _) (append_S t x)) (append_S (t ++ x) _)), by go_num, trivial⟩, by simp [intOf]; omega⟩
    · have hge : (l.length : Int) ≤ i := by omega
      have HP := Lib.hid (show ∀ y ∈ l, Tk.PW y from fun y hc => hpw.out y (by rw [List.take_of_length_le (by omega)]; exact hc))
      have ht : t ++ [41, 10, 122, 10] = 120 :: 32 :: 40 :: Tk.bt (Tk.pr l bs) := by
        have := hlaid.out
        unfold Tk.Laid at this
        rw [this, Tk.pr_drop, List.drop_of_length_le (by omega)]; simp [Tk.pr, Tk.bt]
      clear hlt
      gi_wp2_with fail
      have hval : (ByteArray.mk t.toArray ++ ByteArray.mk #[41, 10, 122, 10]) = ⟨(120 :: 32 :: 40 :: Tk.bt (Tk.pr l bs)).toArray⟩ := by rw [← ht]; exact append_S t [41, 10, 122, 10]
      rw [hval]
      obtain ⟨m, hm⟩ := Tk.brackets (Tk.pr l bs) (fun x hx => HP.out _ (Tk.pr_mem l bs x hx))
      rw [Tk.pr_fst] at hm
      have HQ := Lib.hid hm
      clear hm hval
      refine (callsIn_wide.2 (tEntries_any _ _ (by rw [← ht]; simp; omega))).mono ?_
      intro e w2 h2
      clear ht
      obtain ⟨v2, rfl, hr2, b2⟩ := EntP.out HQ.out h2
      replace b2 : Below w.heap.size w w2 := b1.trans (b2.mono b1.size)
      have HV2 := Lib.hid (HV.out.below b2)
      obtain ⟨o2, cap2, rfl, n1, n2, hel⟩ := hr2.elems
      obtain ⟨g, u, rfl, c0, c1, c2, hw1⟩ := hel 0 (by simp)
      obtain ⟨g', u', hgg, e0, e1, e2, hw2⟩ := hel 1 (by simp)
      cases hgg
      obtain ⟨oa, ca, rfl, m1, m2, hea⟩ := hw1.elems
      obtain ⟨oa', ca', rfl, m1', m2', hea'⟩ := hw2.elems
      obtain ⟨ga', rfl, d0, d1⟩ := hea' 0 (by simp)
      have HE := Lib.hid hea
      clear hea hea' hel hw1 hw2 hr2 h2
      simp at n1 c0 c1 c2 e0 e1 e2 d0 d1 m1 m1'
      simp only [List.length_cons, List.length_nil, List.length_map, Nat.zero_add, Nat.reduceAdd]
      gi_wp2_with fail
      gi_loopw [12] (fun iv wr => ∃ i : Nat, i ≤ l.length ∧ iv = .int .i64 i ∧ Below w2.heap.size w2 wr) (fun iv _ => l.length - (intOf iv).toNat)
      case atStart => exact ⟨0, Nat.zero_le _, rfl, Below.refl _ _⟩
      case round =>
        obtain ⟨i, hi, rfl, hb⟩ := hrel
        by_cases hlt : i < l.length
        · have hlt' : (i : Int) < l.length := by omega
          have him : (i : Int) + 1 ≤ 9223372036854775807 := by omega
          obtain ⟨q1, q2, q3, _, _, hcl⟩ := HV2.out
          cases q3
          obtain ⟨a, rfl, _, hca0⟩ := hcl i hlt
          obtain ⟨x, hx⟩ : ∃ x, l[i] = x := ⟨_, rfl⟩
          have hca := below_cell hb (show w2.cell? (a.add i) = some (S x) by rw [hca0, ← hx]; simp [List.getD, List.getElem?_eq_getElem hlt])
          obtain ⟨h, rfl, z0, _⟩ := HE.out (i + 1) (by simp; omega)
          have z0 := below_cell hb (show w2.cell? ⟨h, (i + 1) * 2, none⟩ = some (S x) by rw [z0, ← hx]; simp)
          have x2 := below_cell hb c2
          clear hcl hca0 hx
          gi_wp2_with fail
          refine drawnH [3, 7, 8, 12, 13] (fun w' => w'.cell? ⟨g, 2, none⟩ = some (.slice (some ⟨h, 0, none⟩) (l.length + 1 : Nat) ca) ∧ w'.cell? ⟨h, (i + 1) * 2, none⟩ = some (S x) ∧ w'.cell? (a.add i) = some (S x)) 14 rfl (by kernel_rfl) ?_
          intro w' hw'
          have hS : w'.cell? ⟨g, 2, none⟩ = some (.slice (some ⟨h, 0, none⟩) (l.length + 1 : Nat) ca) ∧ w'.cell? ⟨h, (i + 1) * 2, none⟩ = some (S x) ∧ w'.cell? (a.add i) = some (S x) := by subst hw'; exact ⟨x2, z0, hca⟩
          have hb' : Below w2.heap.size w2 w' := by subst hw'; exact hb.drew
          clear hw' x2 z0 hca
          refine takeP 0 (v := ?pav0) (fun _ => trivial) (by rfl) (by kernel_rfl) (.inl ⟨by kernel_rfl, fun w1 _ => ?pay0⟩) ?_
          case pay0 => (go_simp; try first | rfl | (rw [if_pos (by omega)]) | (rw [if_neg (by omega)]) | (rw [if_neg (by simp; omega)]) | (split <;> first | (exfalso; omega) | rfl))
          refine takeP 1 (v := ?pav1) (fun _ => trivial) (by rfl) (by kernel_rfl) (.inl ⟨by kernel_rfl, fun w1 _ => ?pay1⟩) ?_
          case pay1 => (go_simp; try first | rfl | (rw [if_pos (by omega)]) | (rw [if_neg (by omega)]) | (rw [if_neg (by simp; omega)]) | (split <;> first | (exfalso; omega) | rfl))
          refine takeP 2 (v := ?pav2) (fun _ => trivial) (by rfl) (by kernel_rfl) (.inl ⟨by kernel_rfl, fun w1 _ => ?pay2⟩) ?_
          case pay2 => (go_simp; try first | rfl | (rw [if_pos (by omega)]) | (rw [if_neg (by omega)]) | (rw [if_neg (by simp; omega)]) | (split <;> first | (exfalso; omega) | rfl))
          refine takeP 4 (v := ?pav4) (fun _ => trivial) (by rfl) (by kernel_rfl) (.inl ⟨by kernel_rfl, fun w1 _ => ?pay4⟩) ?_
          case pay4 => (go_simp; try first | rfl | (rw [if_pos (by omega)]) | (rw [if_neg (by omega)]) | (rw [if_neg (by simp; omega)]) | (split <;> first | (exfalso; omega) | rfl))
          refine takeP 5 (v := .int .i64 ((i + 1 : Nat) : Int)) (fun _ => trivial) (by rfl) (by kernel_rfl) (.inl ⟨by kernel_rfl, fun w1 _ => ?pay5⟩) ?_
          case pay5 =>
            go_simp
            exact IntWalk.i64_in _ (by omega)
          refine takeP 9 (v := ?pav9) (fun _ => trivial) (by rfl) (by kernel_rfl) (.inl ⟨by kernel_rfl, fun w1 _ => ?pay9⟩) ?_
          case pay9 => (go_simp; try first | rfl | (rw [if_pos (by omega)]) | (rw [if_neg (by omega)]) | (rw [if_neg (by simp; omega)]) | (split <;> first | (exfalso; omega) | rfl))
          refine takeP 10 (v := ?pav10) (fun _ => trivial) (by rfl) (by kernel_rfl) (.inl ⟨by kernel_rfl, fun w1 _ => ?pay10⟩) ?_
          case pay10 => (go_simp; try first | rfl | (rw [if_pos (by omega)]) | (rw [if_neg (by omega)]) | (rw [if_neg (by simp; omega)]) | (split <;> first | (exfalso; omega) | rfl))
          refine takeP 11 (v := ?pav11) (fun _ => trivial) (by rfl) (by kernel_rfl) (.inl ⟨by kernel_rfl, fun w1 _ => ?pay11⟩) ?_
          case pay11 => (go_simp; try first | rfl | (rw [if_pos (by omega)]) | (rw [if_neg (by omega)]) | (rw [if_neg (by simp; omega)]) | (split <;> first | (exfalso; omega) | rfl))
          refine takeH 3 (v := ?pav3) (fun _ => trivial) (by rfl) (by kernel_rfl) hS (.inl ⟨by kernel_rfl, fun w1 ⟨a0, a1, a2⟩ => ?pay3⟩) ?_
          case pay3 => (go_simp; try first | rfl | (rw [if_pos (by omega)]) | (rw [if_neg (by omega)]) | (rw [if_neg (by simp; omega)]) | (split <;> first | (exfalso; omega) | rfl))
          refine takeP 6 (v := ?pav6) (fun _ => trivial) (by rfl) (by kernel_rfl) (.inl ⟨by kernel_rfl, fun w1 _ => ?pay6⟩) ?_
          case pay6 => (go_simp; try first | rfl | (rw [if_pos (by omega)]) | (rw [if_neg (by omega)]) | (rw [if_neg (by simp; omega)]) | (split <;> first | (exfalso; omega) | rfl))
          refine takeH 7 (v := ?pav7) (fun _ => trivial) (by rfl) (by kernel_rfl) hS (.inl ⟨by kernel_rfl, fun w1 ⟨a0, a1, a2⟩ => ?pay7⟩) ?_
          case pay7 => (go_simp; try first | rfl | (rw [if_pos (by omega)]) | (rw [if_neg (by omega)]) | (rw [if_neg (by simp; omega)]) | (split <;> first | (exfalso; omega) | rfl))
          refine takeH 8 (v := ?pav8) (fun _ => trivial) (by rfl) (by kernel_rfl) hS (.inl ⟨by kernel_rfl, fun w1 ⟨a0, a1, a2⟩ => ?pay8⟩) ?_
          case pay8 => (go_simp; try first | rfl | (rw [if_pos (by omega)]) | (rw [if_neg (by omega)]) | (rw [if_neg (by simp; omega)]) | (split <;> first | (exfalso; omega) | rfl))
          refine takeH 12 (v := ?pav12) (fun _ => trivial) (by rfl) (by kernel_rfl) hS (.inl ⟨by kernel_rfl, fun w1 ⟨a0, a1, a2⟩ => ?pay12⟩) ?_
          case pay12 => (go_simp; try first | rfl | (rw [if_pos (by omega)]) | (rw [if_neg (by omega)]) | (rw [if_neg (by simp; omega)]) | (split <;> first | (exfalso; omega) | rfl))
          refine takeH 13 (v := ?pav13) (fun _ => trivial) (by rfl) (by kernel_rfl) hS (.inl ⟨by kernel_rfl, fun w1 ⟨a0, a1, a2⟩ => ?pay13⟩) ?_
          case pay13 => (go_simp; try first | rfl | (rw [if_pos (by omega)]) | (rw [if_neg (by omega)]) | (rw [if_neg (by simp; omega)]) | (split <;> first | (exfalso; omega) | rfl))
          simp only [Act.put, List.setIfInBounds_toArray, List.set_cons_succ, List.set_cons_zero]
          refine doneH (by kernel_rfl) ?_
          clear hS
          gi_wp2_with fail
          exact ⟨⟨i + 1, by omega, by go_num, hb'⟩, by simp [intOf]; omega⟩
        · have hge : (l.length : Int) ≤ i := by omega
          have x0 := below_cell hb c0
          have x1 := below_cell hb c1
          have x2 := below_cell hb e2
          have x3 := below_cell hb d0
          clear hlt
          gi_wp2_with fail
          go_ret
          exact ⟨rfl, b2.trans (hb.mono b2.size)⟩
end Go.Proofs.Yticljagcigiejaa
