/- The walk of TokPlain. -/
import Derived.Test.YticljagcigiejaaTkU
import Derived.Test.YticljagcigiejaaTkS
namespace Go.Proofs.Yticljagcigiejaa
open Go.RowKit Go.Shelf
set_option maxRecDepth 100000

theorem tk_mod_end {i k : Nat} (h : i % k + 1 = k) : (i + 1) % k = 0 := by
  have := Nat.div_add_mod i k
  rw [show i + 1 = k * (i / k) + k by omega, Nat.mul_add_mod, Nat.mod_self]
theorem tk_mod_step {i k : Nat} (h : ¬ i % k + 1 = k) (hk : 0 < k) : (i + 1) % k = i % k + 1 := by
  have h1 := Nat.div_add_mod i k
  have h2 := Nat.mod_lt i hk
  rw [show i + 1 = k * (i / k) + (i % k + 1) by omega, Nat.mul_add_mod, Nat.mod_eq_of_lt (by omega)]
set_option maxHeartbeats 8000000 in
theorem walkTokPlain (v : Value) (l : List (List UInt8)) (n : Int) (w : World) (hv : StrRd l v w) (hn : 0 ≤ n ∧ n ≤ 255) :
    Calls Try.prog 4 #[v, .int .u8 n] w fun e w' => e = .returned (.bool true) ∧ Below w.heap.size w w' := by
  obtain ⟨o, cap, rfl, l1, l2, hcl⟩ := id hv
  have HV := Lib.hid hv
  clear hv hcl
  by_cases h30 : 40 < l.length
  · have h' : 40 < (l.length : Int) := by omega
    go_enter Try.func4, Try.ntmps4
    go_wp2_with fail
    refine (tknown_any _).mono ?_
    rintro e w1 ⟨rfl, b1⟩
    go_wp2_with fail
    go_ret
    exact ⟨rfl, b1⟩
  have h' : (l.length : Int) ≤ 40 := by omega
  clear h30
  refine (callsIn_wide (n := 0)).1 ?_
  refine callsIn_of_wp Try.func4 rfl trivial ?_ rfl
  simp only [Try.ntmps4, List.size_toArray, List.length_cons, List.length_nil, Nat.reduceAdd, Nat.reduceSub, Array.replicate_succ, Array.replicate_zero, List.push_toArray, List.append_toArray, List.nil_append, List.cons_append]
  gi_wp2_with fail
  refine (callsIn_wide.2 (tknown_any _)).mono ?_
  rintro e w1 ⟨rfl, b1⟩
  have HV1 := Lib.hid (HV.out.below b1)
  gi_wp2_with fail
  obtain ⟨k, hk⟩ : ∃ k : Nat, 1 + n % 5 = (k : Int) := ⟨(1 + n % 5).toNat, by omega⟩
  have hk1 : 0 < k := by omega
  have hk5 : (k : Int) ≤ 5 := by omega
  rw [hk]
  gi_loopw [6, 7, 8, 9] (fun sv iv jv0 cv0 wr => ∃ (t : List UInt8) (i : Nat), i ≤ l.length ∧ Hid (Tk.pt k 0 l = t ++ Tk.pt k (i % k) (l.drop i)) ∧ Hid (∀ x ∈ l.take i, Tk.PW x) ∧ t.length ≤ 60 * i ∧ sv = S t ∧ iv = .int .i64 i ∧ w1 = wr) (fun _ iv _ _ _ => l.length - (intOf iv).toNat)
  case atStart => exact ⟨[], 0, Nat.zero_le _, Lib.hid (by simp), Lib.hid (fun x h => by simp at h), by simp, rfl, rfl, rfl⟩
  case round =>
    obtain ⟨t, i, hi, hlaid, hpw, htl, rfl, rfl, rfl⟩ := hrel
    by_cases hlt : i < l.length
    · have hlt' : (i : Int) < l.length := by omega
      obtain ⟨q1, q2, q3, _, _, hcl⟩ := HV1.out
      cases q3
      obtain ⟨a, rfl, _, hca0⟩ := hcl i hlt
      obtain ⟨x, hx⟩ : ∃ x, l[i] = x := ⟨_, rfl⟩
      have hca : w1.cell? (a.add i) = some (S x) := by rw [hca0, ← hx]; simp [List.getD, List.getElem?_eq_getElem hlt]
      clear hcl hca0
      have HX := Lib.hid hx
      clear hx
      by_cases h50 : 50 < x.length
      · have h50' : 50 < (x.length : Int) := by omega
        gi_wp2_with fail
        go_ret
        exact ⟨rfl, b1⟩
      have h50' : (x.length : Int) ≤ 50 := by omega
      by_cases hxe : x = []
      · subst hxe
        gi_wp2_with fail
        go_ret
        exact ⟨rfl, b1⟩
      have hxe' : x.isEmpty = false := by simpa using hxe
      have HXE := Lib.hid hxe
      clear hxe h50
      gi_wp2_with fail
      gi_loopw [8, 9] (fun jv cv wr => ∃ j : Nat, j ≤ x.length ∧ Hid (∀ c ∈ x.take j, 32 < c.toNat ∧ c ≠ 34 ∧ c ≠ 40 ∧ c ≠ 41 ∧ c ≠ 59 ∧ c ≠ 92) ∧ jv = .int .i64 j ∧ w1 = wr) (fun jv _ _ => x.length - (intOf jv).toNat)
      case atStart => exact ⟨0, Nat.zero_le _, Lib.hid (fun c h => by simp at h), rfl, rfl⟩
      case round =>
        obtain ⟨j, hj, hok, rfl, rfl⟩ := hrel
        by_cases hjt : j < x.length
        · have hjt' : (j : Int) < x.length := by omega
          gi_wp2_with fail
          all_goals first
            | (go_ret; exact ⟨rfl, b1⟩)
            | (rename_i hh
               have h92 := hh.2
               rw [beq_eq_false_iff_ne] at h92
               refine ⟨⟨j + 1, by omega, Lib.hid (fun c hc => ?_), by go_num, trivial⟩, by simp [intOf]; omega⟩
               rw [List.take_succ_eq_append_getElem hjt] at hc
               rcases List.mem_append.1 hc with h | h
               · exact hok.out c h
               · rw [List.mem_singleton.1 h]
                 exact ⟨by omega, tk_ne (n := 34) (by omega), tk_ne (n := 40) (by omega), tk_ne (n := 41) (by omega), tk_ne (n := 59) (by omega), tk_ne (n := 92) (by omega)⟩)
        · have hge : (x.length : Int) ≤ j := by omega
          have HW : Hid (Tk.PW x) := Lib.hid ⟨HXE.out, fun c hc => hok.out c (by rw [List.take_of_length_le (by omega)]; exact hc)⟩
          have HP := Lib.hid (show ∀ y ∈ l.take (i + 1), Tk.PW y from fun y hc => by
            rw [List.take_succ_eq_append_getElem hlt] at hc
            rcases List.mem_append.1 hc with h | h
            · exact hpw.out y h
            · rw [List.mem_singleton.1 h, HX.out]; exact HW.out)
          clear hjt
          have hlaid' : Tk.pt k 0 l = t ++ Tk.pt k (i % k) (x :: l.drop (i + 1)) := by
            rw [← HX.out, ← List.drop_eq_getElem_cons hlt]; exact hlaid.out
          have hmod := Nat.mod_lt i hk1
          have hdm := Nat.div_add_mod i k
          by_cases hik : i % k + 1 = k
          · have HS := Lib.hid (show Tk.pt k 0 l = (t ++ x ++ [10]) ++ Tk.pt k ((i + 1) % k) (l.drop (i + 1)) by
              rw [hlaid', Tk.pt, if_pos hik, tk_mod_end hik]; simp)
            have hik' : ((i % k : Nat) : Int) = (k : Int) - 1 := by omega
            clear hlaid' hdm
            gi_wp2_with fail
            exact ⟨⟨t ++ x ++ [10], i + 1, by omega, HS, HP, by simp; omega, congrArg Value.string (Eq.trans (congrArg (· ++ _) (append_S t x)) (append_S (t ++ x) _)), by go_num, trivial⟩, by simp [intOf]; omega⟩
          · have HS := Lib.hid (show Tk.pt k 0 l = (t ++ x ++ [32]) ++ Tk.pt k ((i + 1) % k) (l.drop (i + 1)) by
              rw [hlaid', Tk.pt, if_neg hik, tk_mod_step hik hk1]; simp)
            have hik' : ¬ ((i % k : Nat) : Int) = (k : Int) - 1 := by omega
            clear hlaid' hdm
            gi_wp2_with fail
            exact ⟨⟨t ++ x ++ [32], i + 1, by omega, HS, HP, by simp; omega, congrArg Value.string (Eq.trans (congrArg (· ++ _) (append_S t x)) (append_S (t ++ x) _)), by go_num, trivial⟩, by simp [intOf]; omega⟩
    · have hge : (l.length : Int) ≤ i := by omega
      have HP := Lib.hid (show ∀ y ∈ l, Tk.PW y from fun y hc => hpw.out y (by rw [List.take_of_length_le (by omega)]; exact hc))
      have ht : t = Tk.pt k 0 l := by
        rw [hlaid.out, List.drop_of_length_le (by omega)]; simp [Tk.pt]
      have htl' : t.length ≤ 2400 := by omega
      clear hlt htl
      subst ht
      obtain ⟨es, hes⟩ : ∃ es, Tk.pe k 0 [] l 1 = es := ⟨_, rfl⟩
      have HQ := Lib.hid (hes ▸ Tk.plain k l HP.out)
      have HN := Lib.hid (show ((es.length : Nat) : Int) = ((l.length : Int) + k - 1) / k by
        rw [← hes, Tk.pe_len k l 0 [] 1 hk1 rfl, Int.natCast_ediv]; congr 1; omega)
      have HG := Lib.hid (show ∀ i, (h : i < l.length) → ∃ e, es[i / k]? = some e ∧ e.words[i % k]? = some (l[i], false) ∧ e.line = 1 + i / k by
        intro i h
        have := Tk.pe_get k l 0 [] 1 i hk1 rfl h
        rw [Nat.zero_add, hes] at this
        exact this)
      clear hes
      gi_wp2_with fail
      refine (callsIn_wide.2 (tEntries_any _ _ (by omega))).mono ?_
      intro e w2 h2
      clear htl'
      obtain ⟨v2, rfl, hr2, b2⟩ := EntP.out HQ.out h2
      replace b2 : Below w.heap.size w w2 := b1.trans (b2.mono b1.size)
      have HV2 := Lib.hid (HV.out.below b2)
      obtain ⟨o2, cap2, rfl, n1, n2, hel⟩ := hr2.elems
      have HE := Lib.hid hel
      clear hel hr2 h2 
      have hn' := HN.out
      gi_wp2_with fail
      gi_loopw [13] (fun iv wr => ∃ i : Nat, i ≤ l.length ∧ iv = .int .i64 i ∧ Below w2.heap.size w2 wr) (fun iv _ => l.length - (intOf iv).toNat)
      case atStart => exact ⟨0, Nat.zero_le _, rfl, Below.refl _ _⟩
      case round =>
        obtain ⟨i, hi, rfl, hb⟩ := hrel
        by_cases hlt : i < l.length
        · have hlt' : (i : Int) < l.length := by omega
          have hq0 : IntKind.i64.wrap ((i : Int) / k) = ((i / k : Nat) : Int) := by
            have := IntWalk.tdiv_le (i : Int) k (by omega) (by omega)
            rw [Int.natCast_ediv]; exact IntWalk.i64_in _ (by omega)
          have hr1 : (i : Int).tmod k = ((i % k : Nat) : Int) := rfl
          have hr0 : (i : Int) % k = ((i % k : Nat) : Int) := rfl
          have hk0 : ((k : Int) == 0) = false := by rw [beq_eq_false_iff_ne]; omega
          obtain ⟨q1, q2, q3, _, _, hcl⟩ := HV2.out
          cases q3
          obtain ⟨a, rfl, _, hca0⟩ := hcl i hlt
          obtain ⟨e, g1, g2, g3⟩ := HG.out i hlt
          obtain ⟨hql, hqe⟩ := List.getElem?_eq_some_iff.1 g1
          obtain ⟨hrl, hre⟩ := List.getElem?_eq_some_iff.1 g2
          obtain ⟨g, u, rfl, c0, c1, c2, hw1⟩ := HE.out (i / k) hql
          rw [hqe] at c0 c1 hw1
          obtain ⟨oa, ca, rfl, m1, m2, hea⟩ := hw1.elems
          obtain ⟨h, rfl, z0, z1⟩ := hea (i % k) hrl
          rw [hre] at z0 z1
          rw [g3] at c0
          obtain ⟨x, hx⟩ : ∃ x, l[i] = x := ⟨_, rfl⟩
          have hca := below_cell hb (show w2.cell? (a.add i) = some (S x) by rw [hca0, ← hx]; simp [List.getD, List.getElem?_eq_getElem hlt])
          rw [hx] at z0
          have y0 := below_cell hb c0
          have y2 := below_cell hb c2
          have y3 := below_cell hb z0
          have y4 := below_cell hb z1
          obtain ⟨m, hm⟩ : ∃ m, e.words.length = m := ⟨_, rfl⟩
          rw [hm] at y2 m1 hrl
          obtain ⟨q, hq⟩ : ∃ q, i / k = q := ⟨_, rfl⟩
          obtain ⟨r, hr⟩ : ∃ r, i % k = r := ⟨_, rfl⟩
          rw [hq] at hq0 y0 y2 hql
          rw [hr] at hr0 hr1 y3 y4 hrl
          have hql' : (q : Int) < es.length := by omega
          have hrl' : (r : Int) < m := by omega
          have hqm : (q : Int) + 1 ≤ 9223372036854775807 := by omega
          have hq1 : IntKind.i64.wrap ((q : Int) + 1) = ((1 + q : Nat) : Int) := by rw [IntWalk.i64_in _ (by omega)]; omega
          clear hcl hca0 hx hea hw1 c0 c1 c2 z0 z1 hre g1 g2 g3 hqe hm
          gi_wp2_with fail
          refine drawnH [16, 18, 19, 20, 21, 22, 23, 24, 25, 26, 27, 28, 29, 30, 31, 32, 33, 34, 35, 36, 37, 38, 39, 40, 41, 42, 43, 44, 45, 46, 47, 48, 49, 50, 51, 52, 53, 54, 55, 56, 57, 58, 59, 60, 61, 62, 63, 64, 65, 66, 67, 68] (fun w' => w'.cell? ⟨g, q * 3, none⟩ = some (.int .i64 (1 + q : Nat)) ∧ w'.cell? ⟨g, q * 3 + 2, none⟩ = some (.slice (some ⟨h, 0, none⟩) m ca) ∧ w'.cell? ⟨h, r * 2, none⟩ = some (S x) ∧ w'.cell? ⟨h, r * 2 + 1, none⟩ = some (.bool false) ∧ w'.cell? (a.add i) = some (S x)) 69 rfl (by kernel_rfl) ?_
          intro w' hw'
          have hS : w'.cell? ⟨g, q * 3, none⟩ = some (.int .i64 (1 + q : Nat)) ∧ w'.cell? ⟨g, q * 3 + 2, none⟩ = some (.slice (some ⟨h, 0, none⟩) m ca) ∧ w'.cell? ⟨h, r * 2, none⟩ = some (S x) ∧ w'.cell? ⟨h, r * 2 + 1, none⟩ = some (.bool false) ∧ w'.cell? (a.add i) = some (S x) := by subst hw'; exact ⟨y0, y2, y3, y4, hca⟩
          have hb' : Below w2.heap.size w2 w' := by subst hw'; exact hb.drew
          clear hw' y0 y2 y3 y4 hca
          refine takeP 0 (v := ?pav0) (fun _ => trivial) (by rfl) (by kernel_rfl) (.inl ⟨by kernel_rfl, fun w1 _ => ?pay0⟩) ?_
          case pay0 => (go_simp; try first | rfl | (rw [if_pos (by omega)]) | (rw [if_neg (by omega)]) | (rw [if_neg (by simp; omega)]) | (split <;> first | (exfalso; omega) | rfl))
          refine takeP 1 (v := ?pav1) (fun _ => trivial) (by rfl) (by kernel_rfl) (.inl ⟨by kernel_rfl, fun w1 _ => ?pay1⟩) ?_
          case pay1 => (go_simp; try first | rfl | (rw [if_pos (by omega)]) | (rw [if_neg (by omega)]) | (rw [if_neg (by simp; omega)]) | (split <;> first | (exfalso; omega) | rfl))
          refine takeP 2 (v := .int .i64 (q : Int)) (fun _ => trivial) (by rfl) (by kernel_rfl) (.inl ⟨by kernel_rfl, fun w1 _ => ?pay2⟩) ?_
          case pay2 =>
            go_simp
            first | (rw [if_neg (by omega), hq0]) | omega
          refine takeP 3 (v := ?pav3) (fun _ => trivial) (by rfl) (by kernel_rfl) (.inl ⟨by kernel_rfl, fun w1 _ => ?pay3⟩) ?_
          case pay3 => (go_simp; try first | rfl | (rw [if_pos (by omega)]) | (rw [if_neg (by omega)]) | (rw [if_neg (by simp; omega)]) | (split <;> first | (exfalso; omega) | rfl))
          refine takeP 4 (v := ?pav4) (fun _ => trivial) (by rfl) (by kernel_rfl) (.inl ⟨by kernel_rfl, fun w1 _ => ?pay4⟩) ?_
          case pay4 => (go_simp; try first | rfl | (rw [if_pos (by omega)]) | (rw [if_neg (by omega)]) | (rw [if_neg (by simp; omega)]) | (split <;> first | (exfalso; omega) | rfl))
          refine takeP 5 (v := .bool false) (fun _ => trivial) (by rfl) (by kernel_rfl) (.inl ⟨by kernel_rfl, fun w1 _ => ?pay5⟩) ?_
          case pay5 =>
            go_simp
            try omega
          refine takeP 6 (v := ?pav6) (fun _ => trivial) (by rfl) (by kernel_rfl) (.inl ⟨by kernel_rfl, fun w1 _ => ?pay6⟩) ?_
          case pay6 => (go_simp; try first | rfl | (rw [if_pos (by omega)]) | (rw [if_neg (by omega)]) | (rw [if_neg (by simp; omega)]) | (split <;> first | (exfalso; omega) | rfl))
          refine takeP 7 (v := ?pav7) (fun _ => trivial) (by rfl) (by kernel_rfl) (.inl ⟨by kernel_rfl, fun w1 _ => ?pay7⟩) ?_
          case pay7 => (go_simp; try first | rfl | (rw [if_pos (by omega)]) | (rw [if_neg (by omega)]) | (rw [if_neg (by simp; omega)]) | (split <;> first | (exfalso; omega) | rfl))
          refine takeP 8 (v := ?pav8) (fun _ => trivial) (by rfl) (by kernel_rfl) (.inl ⟨by kernel_rfl, fun w1 _ => ?pay8⟩) ?_
          case pay8 => (go_simp; try first | rfl | (rw [if_pos (by omega)]) | (rw [if_neg (by omega)]) | (rw [if_neg (by simp; omega)]) | (split <;> first | (exfalso; omega) | rfl))
          simp only [Act.put, List.setIfInBounds_toArray, List.set_cons_succ, List.set_cons_zero]
          refine takeP 9 (v := .int .i64 (r : Int)) (fun _ => trivial) (by rfl) (by kernel_rfl) (.inl ⟨by kernel_rfl, fun w1 _ => ?pay9⟩) ?_
          case pay9 =>
            go_simp
            first | (rw [if_neg (by omega), hr1]) | (rw [if_neg (by omega), hr0]) | omega
          refine takeP 10 (v := ?pav10) (fun _ => trivial) (by rfl) (by kernel_rfl) (.inl ⟨by kernel_rfl, fun w1 _ => ?pay10⟩) ?_
          case pay10 => (go_simp; try first | rfl | (rw [if_pos (by omega)]) | (rw [if_neg (by omega)]) | (rw [if_neg (by simp; omega)]) | (split <;> first | (exfalso; omega) | rfl))
          refine takeP 11 (v := ?pav11) (fun _ => trivial) (by rfl) (by kernel_rfl) (.inl ⟨by kernel_rfl, fun w1 _ => ?pay11⟩) ?_
          case pay11 => (go_simp; try first | rfl | (rw [if_pos (by omega)]) | (rw [if_neg (by omega)]) | (rw [if_neg (by simp; omega)]) | (split <;> first | (exfalso; omega) | rfl))
          refine takeP 12 (v := ?pav12) (fun _ => trivial) (by rfl) (by kernel_rfl) (.inl ⟨by kernel_rfl, fun w1 _ => ?pay12⟩) ?_
          case pay12 => (go_simp; try first | rfl | (rw [if_pos (by omega)]) | (rw [if_neg (by omega)]) | (rw [if_neg (by simp; omega)]) | (split <;> first | (exfalso; omega) | rfl))
          refine takeP 13 (v := .int .i64 (q : Int)) (fun _ => trivial) (by rfl) (by kernel_rfl) (.inl ⟨by kernel_rfl, fun w1 _ => ?pay13⟩) ?_
          case pay13 =>
            go_simp
            first | (rw [if_neg (by omega), hq0]) | omega
          refine takeP 14 (v := ?pav14) (fun _ => trivial) (by rfl) (by kernel_rfl) (.inl ⟨by kernel_rfl, fun w1 _ => ?pay14⟩) ?_
          case pay14 => (go_simp; try first | rfl | (rw [if_pos (by omega)]) | (rw [if_neg (by omega)]) | (rw [if_neg (by simp; omega)]) | (split <;> first | (exfalso; omega) | rfl))
          refine takeP 15 (v := ?pav15) (fun _ => trivial) (by rfl) (by kernel_rfl) (.inl ⟨by kernel_rfl, fun w1 _ => ?pay15⟩) ?_
          case pay15 => (go_simp; try first | rfl | (rw [if_pos (by omega)]) | (rw [if_neg (by omega)]) | (rw [if_neg (by simp; omega)]) | (split <;> first | (exfalso; omega) | rfl))
          refine takeH 16 (v := ?pav16) (fun _ => trivial) (by rfl) (by kernel_rfl) hS (.inl ⟨by kernel_rfl, fun w1 ⟨a0, a1, a2, a3, a4⟩ => ?pay16⟩) ?_
          case pay16 => (go_simp; try first | rfl | (rw [if_pos (by omega)]) | (rw [if_neg (by omega)]) | (rw [if_neg (by simp; omega)]) | (split <;> first | (exfalso; omega) | rfl))
          refine takeP 17 (v := ?pav17) (fun _ => trivial) (by rfl) (by kernel_rfl) (.inl ⟨by kernel_rfl, fun w1 _ => ?pay17⟩) ?_
          case pay17 => (go_simp; try first | rfl | (rw [if_pos (by omega)]) | (rw [if_neg (by omega)]) | (rw [if_neg (by simp; omega)]) | (split <;> first | (exfalso; omega) | rfl))
          simp only [Act.put, List.setIfInBounds_toArray, List.set_cons_succ, List.set_cons_zero]
          refine takeH 18 (v := .bool false) (fun _ => trivial) (by rfl) (by kernel_rfl) hS (.inl ⟨by kernel_rfl, fun w1 ⟨a0, a1, a2, a3, a4⟩ => ?pay18⟩) ?_
          case pay18 =>
            go_simp
            try omega
          refine takeH 19 (v := ?pav19) (fun _ => trivial) (by rfl) (by kernel_rfl) hS (.inl ⟨by kernel_rfl, fun w1 ⟨a0, a1, a2, a3, a4⟩ => ?pay19⟩) ?_
          case pay19 => (go_simp; try first | rfl | (rw [if_pos (by omega)]) | (rw [if_neg (by omega)]) | (rw [if_neg (by simp; omega)]) | (split <;> first | (exfalso; omega) | rfl))
          refine takeH 20 (v := ?pav20) (fun _ => trivial) (by rfl) (by kernel_rfl) hS (.inl ⟨by kernel_rfl, fun w1 ⟨a0, a1, a2, a3, a4⟩ => ?pay20⟩) ?_
          case pay20 => (go_simp; try first | rfl | (rw [if_pos (by omega)]) | (rw [if_neg (by omega)]) | (rw [if_neg (by simp; omega)]) | (split <;> first | (exfalso; omega) | rfl))
          refine takeH 21 (v := ?pav21) (fun _ => trivial) (by rfl) (by kernel_rfl) hS (.inl ⟨by kernel_rfl, fun w1 ⟨a0, a1, a2, a3, a4⟩ => ?pay21⟩) ?_
          case pay21 => (go_simp; try first | rfl | (rw [if_pos (by omega)]) | (rw [if_neg (by omega)]) | (rw [if_neg (by simp; omega)]) | (split <;> first | (exfalso; omega) | rfl))
          refine takeH 22 (v := ?pav22) (fun _ => trivial) (by rfl) (by kernel_rfl) hS (.inl ⟨by kernel_rfl, fun w1 ⟨a0, a1, a2, a3, a4⟩ => ?pay22⟩) ?_
          case pay22 => (go_simp; try first | rfl | (rw [if_pos (by omega)]) | (rw [if_neg (by omega)]) | (rw [if_neg (by simp; omega)]) | (split <;> first | (exfalso; omega) | rfl))
          refine takeH 23 (v := ?pav23) (fun _ => trivial) (by rfl) (by kernel_rfl) hS (.inl ⟨by kernel_rfl, fun w1 ⟨a0, a1, a2, a3, a4⟩ => ?pay23⟩) ?_
          case pay23 => (go_simp; try first | rfl | (rw [if_pos (by omega)]) | (rw [if_neg (by omega)]) | (rw [if_neg (by simp; omega)]) | (split <;> first | (exfalso; omega) | rfl))
          refine takeH 24 (v := .int .i64 (q : Int)) (fun _ => trivial) (by rfl) (by kernel_rfl) hS (.inl ⟨by kernel_rfl, fun w1 ⟨a0, a1, a2, a3, a4⟩ => ?pay24⟩) ?_
          case pay24 =>
            go_simp
            first | (rw [if_neg (by omega), hq0]) | omega
          refine takeH 25 (v := ?pav25) (fun _ => trivial) (by rfl) (by kernel_rfl) hS (.inl ⟨by kernel_rfl, fun w1 ⟨a0, a1, a2, a3, a4⟩ => ?pay25⟩) ?_
          case pay25 => (go_simp; try first | rfl | (rw [if_pos (by omega)]) | (rw [if_neg (by omega)]) | (rw [if_neg (by simp; omega)]) | (split <;> first | (exfalso; omega) | rfl))
          refine takeH 26 (v := ?pav26) (fun _ => trivial) (by rfl) (by kernel_rfl) hS (.inl ⟨by kernel_rfl, fun w1 ⟨a0, a1, a2, a3, a4⟩ => ?pay26⟩) ?_
          case pay26 => (go_simp; try first | rfl | (rw [if_pos (by omega)]) | (rw [if_neg (by omega)]) | (rw [if_neg (by simp; omega)]) | (split <;> first | (exfalso; omega) | rfl))
          simp only [Act.put, List.setIfInBounds_toArray, List.set_cons_succ, List.set_cons_zero]
          refine takeH 28 (v := ?pav28) (fun _ => trivial) (by rfl) (by kernel_rfl) hS (.inl ⟨by kernel_rfl, fun w1 ⟨a0, a1, a2, a3, a4⟩ => ?pay28⟩) ?_
          case pay28 => (go_simp; try first | rfl | (rw [if_pos (by omega)]) | (rw [if_neg (by omega)]) | (rw [if_neg (by simp; omega)]) | (split <;> first | (exfalso; omega) | rfl))
          refine takeH 29 (v := ?pav29) (fun _ => trivial) (by rfl) (by kernel_rfl) hS (.inl ⟨by kernel_rfl, fun w1 ⟨a0, a1, a2, a3, a4⟩ => ?pay29⟩) ?_
          case pay29 => (go_simp; try first | rfl | (rw [if_pos (by omega)]) | (rw [if_neg (by omega)]) | (rw [if_neg (by simp; omega)]) | (split <;> first | (exfalso; omega) | rfl))
          refine takeH 30 (v := .int .i64 (r : Int)) (fun _ => trivial) (by rfl) (by kernel_rfl) hS (.inl ⟨by kernel_rfl, fun w1 ⟨a0, a1, a2, a3, a4⟩ => ?pay30⟩) ?_
          case pay30 =>
            go_simp
            first | (rw [if_neg (by omega), hr1]) | (rw [if_neg (by omega), hr0]) | omega
          refine takeH 34 (v := ?pav34) (fun _ => trivial) (by rfl) (by kernel_rfl) hS (.inl ⟨by kernel_rfl, fun w1 ⟨a0, a1, a2, a3, a4⟩ => ?pay34⟩) ?_
          case pay34 => (go_simp; try first | rfl | (rw [if_pos (by omega)]) | (rw [if_neg (by omega)]) | (rw [if_neg (by simp; omega)]) | (split <;> first | (exfalso; omega) | rfl))
          refine takeH 35 (v := ?pav35) (fun _ => trivial) (by rfl) (by kernel_rfl) hS (.inl ⟨by kernel_rfl, fun w1 ⟨a0, a1, a2, a3, a4⟩ => ?pay35⟩) ?_
          case pay35 => (go_simp; try first | rfl | (rw [if_pos (by omega)]) | (rw [if_neg (by omega)]) | (rw [if_neg (by simp; omega)]) | (split <;> first | (exfalso; omega) | rfl))
          refine takeH 36 (v := ?pav36) (fun _ => trivial) (by rfl) (by kernel_rfl) hS (.inl ⟨by kernel_rfl, fun w1 ⟨a0, a1, a2, a3, a4⟩ => ?pay36⟩) ?_
          case pay36 => (go_simp; try first | rfl | (rw [if_pos (by omega)]) | (rw [if_neg (by omega)]) | (rw [if_neg (by simp; omega)]) | (split <;> first | (exfalso; omega) | rfl))
          refine takeH 27 (v := ?pav27) (fun _ => trivial) (by rfl) (by kernel_rfl) hS (.inl ⟨by kernel_rfl, fun w1 ⟨a0, a1, a2, a3, a4⟩ => ?pay27⟩) ?_
          case pay27 => (go_simp; try first | rfl | (rw [if_pos (by omega)]) | (rw [if_neg (by omega)]) | (rw [if_neg (by simp; omega)]) | (split <;> first | (exfalso; omega) | rfl))
          refine takeH 31 (v := ?pav31) (fun _ => trivial) (by rfl) (by kernel_rfl) hS (.inl ⟨by kernel_rfl, fun w1 ⟨a0, a1, a2, a3, a4⟩ => ?pay31⟩) ?_
          case pay31 => (go_simp; try first | rfl | (rw [if_pos (by omega)]) | (rw [if_neg (by omega)]) | (rw [if_neg (by simp; omega)]) | (split <;> first | (exfalso; omega) | rfl))
          refine takeH 32 (v := ?pav32) (fun _ => trivial) (by rfl) (by kernel_rfl) hS (.inl ⟨by kernel_rfl, fun w1 ⟨a0, a1, a2, a3, a4⟩ => ?pay32⟩) ?_
          case pay32 => (go_simp; try first | rfl | (rw [if_pos (by omega)]) | (rw [if_neg (by omega)]) | (rw [if_neg (by simp; omega)]) | (split <;> first | (exfalso; omega) | rfl))
          simp only [Act.put, List.setIfInBounds_toArray, List.set_cons_succ, List.set_cons_zero]
          refine takeH 33 (v := ?pav33) (fun _ => trivial) (by rfl) (by kernel_rfl) hS (.inl ⟨by kernel_rfl, fun w1 ⟨a0, a1, a2, a3, a4⟩ => ?pay33⟩) ?_
          case pay33 => (go_simp; try first | rfl | (rw [if_pos (by omega)]) | (rw [if_neg (by omega)]) | (rw [if_neg (by simp; omega)]) | (split <;> first | (exfalso; omega) | rfl))
          refine takeH 37 (v := ?pav37) (fun _ => trivial) (by rfl) (by kernel_rfl) hS (.inl ⟨by kernel_rfl, fun w1 ⟨a0, a1, a2, a3, a4⟩ => ?pay37⟩) ?_
          case pay37 => (go_simp; try first | rfl | (rw [if_pos (by omega)]) | (rw [if_neg (by omega)]) | (rw [if_neg (by simp; omega)]) | (split <;> first | (exfalso; omega) | rfl))
          refine takeH 38 (v := ?pav38) (fun _ => trivial) (by rfl) (by kernel_rfl) hS (.inl ⟨by kernel_rfl, fun w1 ⟨a0, a1, a2, a3, a4⟩ => ?pay38⟩) ?_
          case pay38 => (go_simp; try first | rfl | (rw [if_pos (by omega)]) | (rw [if_neg (by omega)]) | (rw [if_neg (by simp; omega)]) | (split <;> first | (exfalso; omega) | rfl))
          refine takeH 39 (v := ?pav39) (fun _ => trivial) (by rfl) (by kernel_rfl) hS (.inl ⟨by kernel_rfl, fun w1 ⟨a0, a1, a2, a3, a4⟩ => ?pay39⟩) ?_
          case pay39 => (go_simp; try first | rfl | (rw [if_pos (by omega)]) | (rw [if_neg (by omega)]) | (rw [if_neg (by simp; omega)]) | (split <;> first | (exfalso; omega) | rfl))
          refine takeH 40 (v := ?pav40) (fun _ => trivial) (by rfl) (by kernel_rfl) hS (.inl ⟨by kernel_rfl, fun w1 ⟨a0, a1, a2, a3, a4⟩ => ?pay40⟩) ?_
          case pay40 => (go_simp; try first | rfl | (rw [if_pos (by omega)]) | (rw [if_neg (by omega)]) | (rw [if_neg (by simp; omega)]) | (split <;> first | (exfalso; omega) | rfl))
          refine takeH 41 (v := ?pav41) (fun _ => trivial) (by rfl) (by kernel_rfl) hS (.inl ⟨by kernel_rfl, fun w1 ⟨a0, a1, a2, a3, a4⟩ => ?pay41⟩) ?_
          case pay41 => (go_simp; try first | rfl | (rw [if_pos (by omega)]) | (rw [if_neg (by omega)]) | (rw [if_neg (by simp; omega)]) | (split <;> first | (exfalso; omega) | rfl))
          refine takeH 42 (v := ?pav42) (fun _ => trivial) (by rfl) (by kernel_rfl) hS (.inl ⟨by kernel_rfl, fun w1 ⟨a0, a1, a2, a3, a4⟩ => ?pay42⟩) ?_
          case pay42 => (go_simp; try first | rfl | (rw [if_pos (by omega)]) | (rw [if_neg (by omega)]) | (rw [if_neg (by simp; omega)]) | (split <;> first | (exfalso; omega) | rfl))
          refine takeH 43 (v := ?pav43) (fun _ => trivial) (by rfl) (by kernel_rfl) hS (.inl ⟨by kernel_rfl, fun w1 ⟨a0, a1, a2, a3, a4⟩ => ?pay43⟩) ?_
          case pay43 => (go_simp; try first | rfl | (rw [if_pos (by omega)]) | (rw [if_neg (by omega)]) | (rw [if_neg (by simp; omega)]) | (split <;> first | (exfalso; omega) | rfl))
          refine takeH 44 (v := .int .i64 (q : Int)) (fun _ => trivial) (by rfl) (by kernel_rfl) hS (.inl ⟨by kernel_rfl, fun w1 ⟨a0, a1, a2, a3, a4⟩ => ?pay44⟩) ?_
          case pay44 =>
            go_simp
            first | (rw [if_neg (by omega), hq0]) | omega
          simp only [Act.put, List.setIfInBounds_toArray, List.set_cons_succ, List.set_cons_zero]
          refine takeH 45 (v := ?pav45) (fun _ => trivial) (by rfl) (by kernel_rfl) hS (.inl ⟨by kernel_rfl, fun w1 ⟨a0, a1, a2, a3, a4⟩ => ?pay45⟩) ?_
          case pay45 => (go_simp; try first | rfl | (rw [if_pos (by omega)]) | (rw [if_neg (by omega)]) | (rw [if_neg (by simp; omega)]) | (split <;> first | (exfalso; omega) | rfl))
          refine takeH 46 (v := ?pav46) (fun _ => trivial) (by rfl) (by kernel_rfl) hS (.inl ⟨by kernel_rfl, fun w1 ⟨a0, a1, a2, a3, a4⟩ => ?pay46⟩) ?_
          case pay46 => (go_simp; try first | rfl | (rw [if_pos (by omega)]) | (rw [if_neg (by omega)]) | (rw [if_neg (by simp; omega)]) | (split <;> first | (exfalso; omega) | rfl))
          refine takeH 48 (v := ?pav48) (fun _ => trivial) (by rfl) (by kernel_rfl) hS (.inl ⟨by kernel_rfl, fun w1 ⟨a0, a1, a2, a3, a4⟩ => ?pay48⟩) ?_
          case pay48 => (go_simp; try first | rfl | (rw [if_pos (by omega)]) | (rw [if_neg (by omega)]) | (rw [if_neg (by simp; omega)]) | (split <;> first | (exfalso; omega) | rfl))
          refine takeH 49 (v := ?pav49) (fun _ => trivial) (by rfl) (by kernel_rfl) hS (.inl ⟨by kernel_rfl, fun w1 ⟨a0, a1, a2, a3, a4⟩ => ?pay49⟩) ?_
          case pay49 => (go_simp; try first | rfl | (rw [if_pos (by omega)]) | (rw [if_neg (by omega)]) | (rw [if_neg (by simp; omega)]) | (split <;> first | (exfalso; omega) | rfl))
          refine takeH 50 (v := .int .i64 (r : Int)) (fun _ => trivial) (by rfl) (by kernel_rfl) hS (.inl ⟨by kernel_rfl, fun w1 ⟨a0, a1, a2, a3, a4⟩ => ?pay50⟩) ?_
          case pay50 =>
            go_simp
            first | (rw [if_neg (by omega), hr1]) | (rw [if_neg (by omega), hr0]) | omega
          refine takeH 47 (v := ?pav47) (fun _ => trivial) (by rfl) (by kernel_rfl) hS (.inl ⟨by kernel_rfl, fun w1 ⟨a0, a1, a2, a3, a4⟩ => ?pay47⟩) ?_
          case pay47 => (go_simp; try first | rfl | (rw [if_pos (by omega)]) | (rw [if_neg (by omega)]) | (rw [if_neg (by simp; omega)]) | (split <;> first | (exfalso; omega) | rfl))
          refine takeH 51 (v := ?pav51) (fun _ => trivial) (by rfl) (by kernel_rfl) hS (.inl ⟨by kernel_rfl, fun w1 ⟨a0, a1, a2, a3, a4⟩ => ?pay51⟩) ?_
          case pay51 => (go_simp; try first | rfl | (rw [if_pos (by omega)]) | (rw [if_neg (by omega)]) | (rw [if_neg (by simp; omega)]) | (split <;> first | (exfalso; omega) | rfl))
          refine takeH 52 (v := ?pav52) (fun _ => trivial) (by rfl) (by kernel_rfl) hS (.inl ⟨by kernel_rfl, fun w1 ⟨a0, a1, a2, a3, a4⟩ => ?pay52⟩) ?_
          case pay52 => (go_simp; try first | rfl | (rw [if_pos (by omega)]) | (rw [if_neg (by omega)]) | (rw [if_neg (by simp; omega)]) | (split <;> first | (exfalso; omega) | rfl))
          refine takeH 53 (v := ?pav53) (fun _ => trivial) (by rfl) (by kernel_rfl) hS (.inl ⟨by kernel_rfl, fun w1 ⟨a0, a1, a2, a3, a4⟩ => ?pay53⟩) ?_
          case pay53 => (go_simp; try first | rfl | (rw [if_pos (by omega)]) | (rw [if_neg (by omega)]) | (rw [if_neg (by simp; omega)]) | (split <;> first | (exfalso; omega) | rfl))
          simp only [Act.put, List.setIfInBounds_toArray, List.set_cons_succ, List.set_cons_zero]
          refine takeH 54 (v := ?pav54) (fun _ => trivial) (by rfl) (by kernel_rfl) hS (.inl ⟨by kernel_rfl, fun w1 ⟨a0, a1, a2, a3, a4⟩ => ?pay54⟩) ?_
          case pay54 => (go_simp; try first | rfl | (rw [if_pos (by omega)]) | (rw [if_neg (by omega)]) | (rw [if_neg (by simp; omega)]) | (split <;> first | (exfalso; omega) | rfl))
          refine takeH 55 (v := ?pav55) (fun _ => trivial) (by rfl) (by kernel_rfl) hS (.inl ⟨by kernel_rfl, fun w1 ⟨a0, a1, a2, a3, a4⟩ => ?pay55⟩) ?_
          case pay55 => (go_simp; try first | rfl | (rw [if_pos (by omega)]) | (rw [if_neg (by omega)]) | (rw [if_neg (by simp; omega)]) | (split <;> first | (exfalso; omega) | rfl))
          refine takeH 56 (v := ?pav56) (fun _ => trivial) (by rfl) (by kernel_rfl) hS (.inl ⟨by kernel_rfl, fun w1 ⟨a0, a1, a2, a3, a4⟩ => ?pay56⟩) ?_
          case pay56 => (go_simp; try first | rfl | (rw [if_pos (by omega)]) | (rw [if_neg (by omega)]) | (rw [if_neg (by simp; omega)]) | (split <;> first | (exfalso; omega) | rfl))
          refine takeH 57 (v := ?pav57) (fun _ => trivial) (by rfl) (by kernel_rfl) hS (.inl ⟨by kernel_rfl, fun w1 ⟨a0, a1, a2, a3, a4⟩ => ?pay57⟩) ?_
          case pay57 => (go_simp; try first | rfl | (rw [if_pos (by omega)]) | (rw [if_neg (by omega)]) | (rw [if_neg (by simp; omega)]) | (split <;> first | (exfalso; omega) | rfl))
          refine takeH 58 (v := ?pav58) (fun _ => trivial) (by rfl) (by kernel_rfl) hS (.inl ⟨by kernel_rfl, fun w1 ⟨a0, a1, a2, a3, a4⟩ => ?pay58⟩) ?_
          case pay58 => (go_simp; try first | rfl | (rw [if_pos (by omega)]) | (rw [if_neg (by omega)]) | (rw [if_neg (by simp; omega)]) | (split <;> first | (exfalso; omega) | rfl))
          refine takeH 59 (v := .int .i64 (q : Int)) (fun _ => trivial) (by rfl) (by kernel_rfl) hS (.inl ⟨by kernel_rfl, fun w1 ⟨a0, a1, a2, a3, a4⟩ => ?pay59⟩) ?_
          case pay59 =>
            go_simp
            first | (rw [if_neg (by omega), hq0]) | omega
          refine takeH 60 (v := ?pav60) (fun _ => trivial) (by rfl) (by kernel_rfl) hS (.inl ⟨by kernel_rfl, fun w1 ⟨a0, a1, a2, a3, a4⟩ => ?pay60⟩) ?_
          case pay60 => (go_simp; try first | rfl | (rw [if_pos (by omega)]) | (rw [if_neg (by omega)]) | (rw [if_neg (by simp; omega)]) | (split <;> first | (exfalso; omega) | rfl))
          refine takeH 61 (v := ?pav61) (fun _ => trivial) (by rfl) (by kernel_rfl) hS (.inl ⟨by kernel_rfl, fun w1 ⟨a0, a1, a2, a3, a4⟩ => ?pay61⟩) ?_
          case pay61 => (go_simp; try first | rfl | (rw [if_pos (by omega)]) | (rw [if_neg (by omega)]) | (rw [if_neg (by simp; omega)]) | (split <;> first | (exfalso; omega) | rfl))
          refine takeH 63 (v := ?pav63) (fun _ => trivial) (by rfl) (by kernel_rfl) hS (.inl ⟨by kernel_rfl, fun w1 ⟨a0, a1, a2, a3, a4⟩ => ?pay63⟩) ?_
          case pay63 => (go_simp; try first | rfl | (rw [if_pos (by omega)]) | (rw [if_neg (by omega)]) | (rw [if_neg (by simp; omega)]) | (split <;> first | (exfalso; omega) | rfl))
          simp only [Act.put, List.setIfInBounds_toArray, List.set_cons_succ, List.set_cons_zero]
          refine takeH 64 (v := ?pav64) (fun _ => trivial) (by rfl) (by kernel_rfl) hS (.inl ⟨by kernel_rfl, fun w1 ⟨a0, a1, a2, a3, a4⟩ => ?pay64⟩) ?_
          case pay64 => (go_simp; try first | rfl | (rw [if_pos (by omega)]) | (rw [if_neg (by omega)]) | (rw [if_neg (by simp; omega)]) | (split <;> first | (exfalso; omega) | rfl))
          refine takeH 65 (v := .int .i64 (q : Int)) (fun _ => trivial) (by rfl) (by kernel_rfl) hS (.inl ⟨by kernel_rfl, fun w1 ⟨a0, a1, a2, a3, a4⟩ => ?pay65⟩) ?_
          case pay65 =>
            go_simp
            first | (rw [if_neg (by omega), hq0]) | omega
          refine takeH 66 (v := .int .i64 ((1 + q : Nat) : Int)) (fun _ => trivial) (by rfl) (by kernel_rfl) hS (.inl ⟨by kernel_rfl, fun w1 ⟨a0, a1, a2, a3, a4⟩ => ?pay66⟩) ?_
          case pay66 =>
            go_simp
            try first | rw [hq1] | (rw [IntWalk.i64_in _ (by omega)]; try omega)
          refine takeH 62 (v := ?pav62) (fun _ => trivial) (by rfl) (by kernel_rfl) hS (.inl ⟨by kernel_rfl, fun w1 ⟨a0, a1, a2, a3, a4⟩ => ?pay62⟩) ?_
          case pay62 => (go_simp; try first | rfl | (rw [if_pos (by omega)]) | (rw [if_neg (by omega)]) | (rw [if_neg (by simp; omega)]) | (split <;> first | (exfalso; omega) | rfl))
          refine takeH 67 (v := ?pav67) (fun _ => trivial) (by rfl) (by kernel_rfl) hS (.inl ⟨by kernel_rfl, fun w1 ⟨a0, a1, a2, a3, a4⟩ => ?pay67⟩) ?_
          case pay67 => (go_simp; try first | rfl | (rw [if_pos (by omega)]) | (rw [if_neg (by omega)]) | (rw [if_neg (by simp; omega)]) | (split <;> first | (exfalso; omega) | rfl))
          refine takeH 68 (v := ?pav68) (fun _ => trivial) (by rfl) (by kernel_rfl) hS (.inl ⟨by kernel_rfl, fun w1 ⟨a0, a1, a2, a3, a4⟩ => ?pay68⟩) ?_
          case pay68 => (go_simp; try first | rfl | (rw [if_pos (by omega)]) | (rw [if_neg (by omega)]) | (rw [if_neg (by simp; omega)]) | (split <;> first | (exfalso; omega) | rfl))
          try simp only [Act.put, List.setIfInBounds_toArray, List.set_cons_succ, List.set_cons_zero]
          refine doneH (by kernel_rfl) ?_
          clear hS
          gi_wp2_with fail
          exact ⟨⟨i + 1, by omega, by go_num, hb'⟩, by simp [intOf]; omega⟩
        · have hge : (l.length : Int) ≤ i := by omega
          clear hlt
          gi_wp2_with fail
          go_ret
          exact ⟨rfl, b2.trans (hb.mono b2.size)⟩
end Go.Proofs.Yticljagcigiejaa
