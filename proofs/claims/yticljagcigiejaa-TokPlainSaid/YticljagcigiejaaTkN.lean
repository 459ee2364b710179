/- The reference's Entries. -/
import Derived.Test.YticljagcigiejaaTkMe
namespace Go.Proofs.Yticljagcigiejaa
open Go.RowKit Go.Shelf
set_option maxRecDepth 100000

namespace Tk
theorem line_split : ∀ (p q : List UInt8), (∀ c ∈ p, c ≠ 10) → has (p ++ 10 :: q) = true ∧ ln (p ++ 10 :: q) = p ∧ rest (p ++ 10 :: q) = q
  | [], q, _ => by simp [has, ln, rest]
  | c :: p, q, h => by
    have hc : c ≠ 10 := h c (by simp)
    obtain ⟨h1, h2, h3⟩ := line_split p q (fun d hd => h d (by simp [hd]))
    have hd : (c != 10) = true := by simpa using hc
    refine ⟨?_, ?_, ?_⟩
    · unfold has at h1 ⊢; simp at h1 ⊢
    · unfold ln at h2 ⊢; rw [List.cons_append, List.takeWhile_cons, hd, if_pos rfl, h2]
    · unfold rest at h3 ⊢; rw [List.cons_append, List.dropWhile_cons, hd, if_pos rfl]; exact h3
theorem line_none : ∀ (p : List UInt8), (∀ c ∈ p, c ≠ 10) → has p = false ∧ rest p = []
  | [], _ => ⟨rfl, rfl⟩
  | c :: p, h => by
    have hc : c ≠ 10 := h c (by simp)
    obtain ⟨h1, h3⟩ := line_none p (fun d hd => h d (by simp [hd]))
    have hd : (c != 10) = true := by simpa using hc
    have hd' : (c == 10) = false := by simpa using hc
    refine ⟨?_, ?_⟩
    · unfold has at h1 ⊢; rw [List.any_cons, hd', h1]; rfl
    · unfold rest at h3 ⊢; rw [List.dropWhile_cons, hd, if_pos rfl]; exact h3
theorem step_grows {st st' : St} {n : Nat} {l : List UInt8} (h : stepL st n l = .ok st') (ho : st.opens.length ≤ 8) : st'.opens.length ≤ 8 ∧ st'.words.length ≤ st.words.length + l.length ∧ st'.out.length ≤ st.out.length + 1 := by
  unfold stepL at h
  rcases hr : read l (st.begin l) n with e | s1
  · rw [hr] at h; cases h
  · rw [hr] at h
    cases h
    obtain ⟨g1, g2, g3, _⟩ := read_grows hr (show (st.begin l).opens.length ≤ 8 from ho)
    have g1 : s1.words.length ≤ st.words.length + l.length := g1
    have g2 : s1.out = st.out := g2
    unfold St.fin
    split
    · refine ⟨g3, by simp [St.endE], ?_⟩
      unfold St.endE
      split
      · rw [g2]; omega
      · simp only [List.length_append, List.length_cons, List.length_nil]; rw [g2]; omega
    · exact ⟨g3, g1, by rw [g2]; omega⟩
/-- at the loop's head: the line begins at a, i is looked at -/
structure ReI (s : List UInt8) (a i n : Nat) (x : Lx) (st : St) (w wr : World) : Prop where
  lo : a ≤ i
  hi : i ≤ s.length + 1
  al : i = s.length + 1 → a = i
  no : ∀ c ∈ (s.drop a).take (i - a), c ≠ 10
  sim : LSim x st
  spec : ent s 1 st0 = ent (s.drop a) n st
  rd : LxRd (fun g => g < w.heap.size) w.heap.size x wr
  keep : Keep (fun g => g < w.heap.size) w wr
  deep : st.opens.length ≤ 8
  words : st.words.length + (s.length - a) ≤ 800000
  out : st.out.length + (s.length + 1 - a) ≤ 800001
  num : n ≤ a + 1
theorem take_more {s : List UInt8} {a i : Nat} (h1 : a ≤ i) (h2 : i < s.length) : (s.drop a).take (i + 1 - a) = (s.drop a).take (i - a) ++ [s[i]] := by
  have e : i + 1 - a = (i - a) + 1 := by omega
  rw [e, List.take_succ_eq_append_getElem (by simp; omega)]
  simp [show a + (i - a) = i by omega]
theorem split_at' {s : List UInt8} {a i : Nat} (h1 : a ≤ i) : s.drop a = (s.drop a).take (i - a) ++ s.drop i := by
  have := (List.take_append_drop (i - a) (s.drop a)).symm
  rwa [List.drop_drop, show a + (i - a) = i by omega] at this
end Tk

set_option maxHeartbeats 4000000 in
theorem rEntries_any (s : List UInt8) (w : World) (hs : s.length ≤ 700000) :
    Calls Try.prog 12 #[S s] w (EntP s w) := by
  have HI := Lib.hid (show Tk.ReI s 0 0 1 Tk.lx0 Tk.st0 w (w.alloc (.cells #[.slice none 0 0, .int .i64 0, .bool false, .slice none 0 0, .bool false, .int .i64 0, .int .i64 0, S [], .bool false] 73)) from
    ⟨Nat.le_refl _, by omega, fun e => by omega, fun c h => by simp at h, Tk.LSim.start, rfl,
      ⟨fun _ => False, _, _, [], World.alloc_heap_new w _, ⟨Nat.lt_irrefl _, by simp, fun g hg => by simp; omega, fun _ h => h.elim, rfl, fun i h => by simp at h, Row.nil _ _ _ _, Row.nil _ _ _ _, Row.nil _ _ _ _⟩⟩,
      (Keep.refl _ _).alloc (fun g hg => hg) _, by simp [Tk.st0], by simp [Tk.st0]; omega, by simp [Tk.st0]; omega, by omega⟩)
  refine (callsIn_wide (n := 0)).1 ?_
  refine callsIn_of_wp Try.func12 rfl trivial ?_ rfl
  simp only [Try.ntmps12, List.size_toArray, List.length_cons, List.length_nil, Nat.reduceAdd, Nat.reduceSub, Array.replicate_succ, Array.replicate_zero, List.push_toArray, List.append_toArray, List.nil_append, List.cons_append]
  gi_wp2_with fail
  gi_loopw [6, 7, 8] (fun va vn vi wr => ∃ (a n i : Nat) (x : Tk.Lx) (st : Tk.St), va = .int .i64 a ∧ vn = .int .i64 n ∧ vi = .int .i64 i ∧ Tk.ReI s a i n x st w wr) (fun _ _ i _ => s.length + 1 - (intOf i).toNat)
  case atStart => exact ⟨0, 1, 0, _, _, rfl, by go_num, rfl, HI.out⟩
  case round =>
    clear HI
    obtain ⟨a, n, i, x, st, rfl, rfl, rfl, hI⟩ := hrel
    have hai := hI.lo
    have hi1 := hI.hi
    have hnum := hI.num
    have HII := Lib.hid hI
    clear hI
    by_cases hlt : i < s.length
    · have hlt' : (i : Int) < s.length := by omega
      have hle' : (i : Int) ≤ s.length := by omega
      have hne' : ((i : Int) == s.length) = false := by rw [beq_eq_false_iff_ne]; omega
      by_cases h10 : s[i] = 10
      · obtain ⟨e1, e2⟩ := tk_beq (n := 10) rfl h10
        obtain ⟨t, ht⟩ : ∃ t, (s.drop a).take (i - a) = t := ⟨_, rfl⟩
        have htl : t.length ≤ s.length := by rw [← ht]; simp; omega
        have htl2 : t.length + a = i := by rw [← ht]; simp; omega
        have hno : ∀ c ∈ t, c ≠ 10 := by rw [← ht]; exact HII.out.no
        have hR : s.drop a = t ++ 10 :: s.drop (i + 1) := by rw [Tk.split_at' hai, ht, List.drop_eq_getElem_cons hlt, h10]
        obtain ⟨l1, l2, l3⟩ := Tk.line_split t (s.drop (i + 1)) hno
        rw [← hR] at l1 l2 l3
        have hln : Tk.line1 (s.drop a) = Tk.cr t := by unfold Tk.line1; rw [l1, if_pos rfl, l2]
        have hne : s.drop a ≠ [] := by rw [hR]; simp
        have hec := Tk.ent_cons hne n st
        rw [← HII.out.spec, hln, l3] at hec
        have HEC := Lib.hid hec
        have hcrl : (Tk.cr t).length ≤ t.length := by unfold Tk.cr; split <;> simp
        have hcr : (t = [] ∧ Tk.cr t = []) ∨ (∃ h : 0 < t.length, t[t.length - 1] = 13 ∧ Tk.cr t = t.take (t.length - 1)) ∨ (∃ h : 0 < t.length, t[t.length - 1] ≠ 13 ∧ Tk.cr t = t) := by
          rcases t with _ | ⟨c, r⟩
          · exact .inl ⟨rfl, rfl⟩
          · have hg : (c :: r).getLast? = some ((c :: r)[(c :: r).length - 1]'(by simp)) := by rw [List.getLast?_eq_getElem?, List.getElem?_eq_getElem]
            by_cases h : (c :: r)[(c :: r).length - 1]'(by simp) = 13
            · exact .inr (.inl ⟨by simp, h, by unfold Tk.cr; rw [hg, h, if_pos rfl, List.dropLast_eq_take]⟩)
            · exact .inr (.inr ⟨by simp, h, by unfold Tk.cr; rw [hg, if_neg (by simpa using h)]⟩)
        have HHI := Lib.hid (show ∀ (x' : Tk.Lx) (st' : Tk.St) (w2 : World), Tk.stepL st n (Tk.cr t) = .ok st' → Tk.LxRd (fun g => g < w.heap.size) w.heap.size x' w2 → Keep (fun g => g < w.heap.size) w w2 → Tk.LSim x' st' → Tk.ReI s (i + 1) (i + 1) (n + 1) x' st' w w2 from fun x' st' w2 hst hr hk hsm => by
          obtain ⟨q1, q2, q3⟩ := Tk.step_grows hst HII.out.deep
          have hw := HII.out.words
          have ho := HII.out.out
          rw [hst] at hec
          exact ⟨Nat.le_refl _, by omega, fun _ => rfl, fun c h => by simp at h, hsm, hec, hr, hk, q1, by omega, by omega, by omega⟩)
        have HB1 := Lib.hid (show (Tk.cr t).length ≤ 900000 ∧ st.words.length + (Tk.cr t).length ≤ 900000 ∧ st.out.length ≤ 900000 by
          have hw := HII.out.words
          have ho := HII.out.out
          exact ⟨by omega, by omega, by omega⟩)
        clear h10 hno hR l1 l2 l3 hln hne hec hcrl
        obtain ⟨ct, hct⟩ : ∃ ct, Tk.cr t = ct := ⟨_, rfl⟩
        rw [hct] at hcr HHI HB1 HEC
        rcases hcr with ⟨ht0, hc⟩ | ⟨hp, hl, hc⟩ | ⟨hp, hl, hc⟩
        · subst hc
          subst ht0
          clear hct
          gi_wp2_with fail
          refine (callsIn_wide.2 (rline_any (fun g => g < w.heap.size) w.heap.size x st [] n _ HII.out.rd HII.out.sim HB1.out.1 HII.out.deep HB1.out.2.1 HB1.out.2.2)).mono ?_
          rintro e w2 ⟨hk2, hl2⟩
          have HK2 := Lib.hid (HII.out.keep.trans hk2)
          rcases hst : Tk.stepL st n [] with z | st'
          · rw [hst] at hl2
            obtain ⟨hz, rfl⟩ := hl2
            have hz' : (z != 0) = true := by simpa using hz
            have HE := Lib.hid (show Tk.entries s = ([], n, z) by unfold Tk.entries; rw [HEC.out, hst]; rfl)
            clear hst hz hk2
            gi_wp2_with fail
            go_ret3
            exact ⟨.slice none 0 0, by rw [HE.out]; rfl, by rw [HE.out]; exact ⟨[], rfl, fun i h => by simp at h, .inl ⟨rfl, rfl⟩⟩, HK2.out.below (fun g hg => hg)⟩
          · rw [hst] at hl2
            obtain ⟨rfl, x', hr2, hs2⟩ := hl2
            have HN := Lib.hid (HHI.out x' st' w2 hst hr2 HK2.out hs2)
            clear hst hr2 hs2 hk2
            gi_wp2_with fail
            exact ⟨⟨i + 1, n + 1, i + 1, x', st', by go_num, by go_num, by go_num, HN.out⟩, by simp [intOf]; omega⟩
        · obtain ⟨m, hm⟩ : ∃ m, t.length = m + 1 := ⟨t.length - 1, by omega⟩
          have hmt : m < t.length := by omega
          have hml : (m : Int) ≤ 900000 := by omega
          have hml2 : m ≤ 900000 := by omega
          have hl' : t[m] = 13 := by rw [← hl]; congr 1; omega
          have hcm : List.take m t = ct := by rw [hc]; congr 1; omega
          obtain ⟨e3, e4⟩ := tk_beq (n := 13) rfl hl'
          have hw1 : IntKind.i64.wrap (((m + 1 : Nat) : Int) - 1) = m := by rw [IntWalk.i64_in _ (by omega)]; omega
          clear hp hl hc hct hl' htl htl2
          gi_wp2_with fail
          refine (callsIn_wide.2 (rline_any (fun g => g < w.heap.size) w.heap.size x st ct n _ HII.out.rd HII.out.sim HB1.out.1 HII.out.deep HB1.out.2.1 HB1.out.2.2)).mono ?_
          rintro e w2 ⟨hk2, hl2⟩
          have HK2 := Lib.hid (HII.out.keep.trans hk2)
          rcases hst : Tk.stepL st n ct with z | st'
          · rw [hst] at hl2
            obtain ⟨hz, rfl⟩ := hl2
            have hz' : (z != 0) = true := by simpa using hz
            have HE := Lib.hid (show Tk.entries s = ([], n, z) by unfold Tk.entries; rw [HEC.out, hst]; rfl)
            clear hst hz hk2
            gi_wp2_with fail
            go_ret3
            exact ⟨.slice none 0 0, by rw [HE.out]; rfl, by rw [HE.out]; exact ⟨[], rfl, fun i h => by simp at h, .inl ⟨rfl, rfl⟩⟩, HK2.out.below (fun g hg => hg)⟩
          · rw [hst] at hl2
            obtain ⟨rfl, x', hr2, hs2⟩ := hl2
            have HN := Lib.hid (HHI.out x' st' w2 hst hr2 HK2.out hs2)
            clear hst hr2 hs2 hk2
            gi_wp2_with fail
            exact ⟨⟨i + 1, n + 1, i + 1, x', st', by go_num, by go_num, by go_num, HN.out⟩, by simp [intOf]; omega⟩
        · obtain ⟨m, hm⟩ : ∃ m, t.length = m + 1 := ⟨t.length - 1, by omega⟩
          have hmt : m < t.length := by omega
          have hml : (m : Int) ≤ 900000 := by omega
          have hml2 : m ≤ 900000 := by omega
          have hl' : t[m] ≠ 13 := by intro e; apply hl; rw [← e]; congr 1; omega
          obtain ⟨e3, e4⟩ := tk_bne (n := 13) (b := 13) rfl hl'
          have hw1 : IntKind.i64.wrap (((m + 1 : Nat) : Int) - 1) = m := by rw [IntWalk.i64_in _ (by omega)]; omega
          subst hc
          clear hp hl hct hl' htl htl2
          gi_wp2_with fail
          refine (callsIn_wide.2 (rline_any (fun g => g < w.heap.size) w.heap.size x st ct n _ HII.out.rd HII.out.sim HB1.out.1 HII.out.deep HB1.out.2.1 HB1.out.2.2)).mono ?_
          rintro e w2 ⟨hk2, hl2⟩
          have HK2 := Lib.hid (HII.out.keep.trans hk2)
          rcases hst : Tk.stepL st n ct with z | st'
          · rw [hst] at hl2
            obtain ⟨hz, rfl⟩ := hl2
            have hz' : (z != 0) = true := by simpa using hz
            have HE := Lib.hid (show Tk.entries s = ([], n, z) by unfold Tk.entries; rw [HEC.out, hst]; rfl)
            clear hst hz hk2
            gi_wp2_with fail
            go_ret3
            exact ⟨.slice none 0 0, by rw [HE.out]; rfl, by rw [HE.out]; exact ⟨[], rfl, fun i h => by simp at h, .inl ⟨rfl, rfl⟩⟩, HK2.out.below (fun g hg => hg)⟩
          · rw [hst] at hl2
            obtain ⟨rfl, x', hr2, hs2⟩ := hl2
            have HN := Lib.hid (HHI.out x' st' w2 hst hr2 HK2.out hs2)
            clear hst hr2 hs2 hk2
            gi_wp2_with fail
            exact ⟨⟨i + 1, n + 1, i + 1, x', st', by go_num, by go_num, by go_num, HN.out⟩, by simp [intOf]; omega⟩
      · obtain ⟨e1, e2⟩ := tk_bne (n := 10) (b := 10) rfl h10
        have HN := Lib.hid (show Tk.ReI s a (i + 1) n x st w wr from
          ⟨by omega, by omega, fun e => by omega, fun c hc => by
            rw [Tk.take_more hai hlt] at hc
            rcases List.mem_append.1 hc with h | h
            · exact HII.out.no c h
            · rw [List.mem_singleton.1 h]; exact h10, HII.out.sim, HII.out.spec, HII.out.rd, HII.out.keep, HII.out.deep, HII.out.words, HII.out.out, HII.out.num⟩)
        clear h10
        gi_wp2_with fail
        exact ⟨⟨a, n, i + 1, x, st, rfl, rfl, by go_num, HN.out⟩, by simp [intOf]; omega⟩
    · by_cases hend : i = s.length
      · have hlt' : ¬ (i : Int) < s.length := by omega
        have hle' : (i : Int) ≤ s.length := by omega
        have heq' : ((i : Int) == s.length) = true := by rw [beq_iff_eq]; omega
        by_cases hae : a = i
        · have hae' : ((a : Int) == i) = true := by rw [beq_iff_eq]; omega
          have HAE := Lib.hid hae
          have HEND := Lib.hid hend
          have hsa : s.length ≤ a := by omega
          clear hae hend hlt
          have hsp := HII.out.spec
          rw [List.drop_of_length_le hsa, Tk.ent_nil] at hsp
          have hsim := HII.out.sim
          obtain ⟨vo, o, cap, hcell, hz, hb, hen⟩ := HII.out.rd.cells
          have c0 := hcell 0 _ rfl
          have c5 := hcell 5 _ rfl
          have c6 := hcell 6 _ rfl
          have HEN := Lib.hid hen
          have hop := hsim.opn
          clear hcell hen
          by_cases hopn : st.opens = []
          · have HE := Lib.hid (show Tk.entries s = (x.out, 0, 0) by unfold Tk.entries; rw [hsp, hsim.out]; simp [Tk.finish, hopn])
            have h5 : ¬ (0 : Int) < x.opn := by rw [hop, hopn]; simp
            clear hsp hsim hop hopn
            gi_wp2_with fail
            go_ret3
            exact ⟨vo, by rw [HE.out]; rfl, by rw [HE.out]; exact HEN.out.kept (fun _ _ => trivial) (Nat.le_refl _) (fun _ _ _ => rfl), HII.out.keep.below (fun g hg => hg)⟩
          · obtain ⟨n0, rs, hno⟩ : ∃ n0 rs, st.opens = n0 :: rs := by
              rcases h : st.opens with _ | ⟨n0, rs⟩
              · exact absurd h hopn
              · exact ⟨n0, rs, rfl⟩
            have HE := Lib.hid (show Tk.entries s = ([], x.first, 2) by unfold Tk.entries; rw [hsp, hsim.first n0 rs hno]; simp [Tk.finish, hno])
            have h5 : (0 : Int) < x.opn := by rw [hop, hno]; simp
            clear hsp hsim hop hopn hno
            gi_wp2_with fail
            refine drawnH [3, 4] (fun w' => w'.cell? ⟨w.heap.size, 6, none⟩ = some (.int .i64 x.first)) 7 rfl (by kernel_rfl) ?_
            intro w' hw'
            have hS : w'.cell? ⟨w.heap.size, 6, none⟩ = some (.int .i64 x.first) := by subst hw'; exact c6
            have HKw := Lib.hid (show Keep (fun g => g < w.heap.size) w w' by subst hw'; exact HII.out.keep.drew)
            clear hw' c6 c5 c0
            refine takeP 0 (v := ?nav0) (fun _ => trivial) (by rfl) (by kernel_rfl) (.inl ⟨by kernel_rfl, fun w1 _ => ?nay0⟩) ?_
            case nay0 => (go_simp; try first | rfl | (rw [if_pos (by omega)]) | (rw [if_neg (by omega)]) | (rw [if_neg (by simp; omega)]) | (split <;> first | (exfalso; omega) | rfl))
            refine takeP 1 (v := ?nav1) (fun _ => trivial) (by rfl) (by kernel_rfl) (.inl ⟨by kernel_rfl, fun w1 _ => ?nay1⟩) ?_
            case nay1 => (go_simp; try first | rfl | (rw [if_pos (by omega)]) | (rw [if_neg (by omega)]) | (rw [if_neg (by simp; omega)]) | (split <;> first | (exfalso; omega) | rfl))
            refine takeP 2 (v := ?nav2) (fun _ => trivial) (by rfl) (by kernel_rfl) (.inl ⟨by kernel_rfl, fun w1 _ => ?nay2⟩) ?_
            case nay2 => (go_simp; try first | rfl | (rw [if_pos (by omega)]) | (rw [if_neg (by omega)]) | (rw [if_neg (by simp; omega)]) | (split <;> first | (exfalso; omega) | rfl))
            refine takeH 3 (v := ?nav3) (fun _ => trivial) (by rfl) (by kernel_rfl) hS (.inl ⟨by kernel_rfl, fun w1 a1 => ?nay3⟩) ?_
            case nay3 => (go_simp; try first | rfl | (rw [if_pos (by omega)]) | (rw [if_neg (by omega)]) | (rw [if_neg (by simp; omega)]) | (split <;> first | (exfalso; omega) | rfl))
            refine oneH 4 (by rfl) (by kernel_rfl) (fun K hK => ?_)
            gi_wp2_with fail
            refine hK _ _ (fun _ => hS) ?_
            clear hK K
            refine oneH 5 (by rfl) (by kernel_rfl) (fun K hK => ?_)
            gi_wp2_with fail
            refine hK _ _ (fun h => absurd h (by decide)) ?_
            clear hK K
            refine oneH 6 (by rfl) (by kernel_rfl) (fun K hK => ?_)
            gi_wp2_with fail
            refine hK _ _ (fun h => absurd h (by decide)) ?_
            clear hK K
            refine doneH (by kernel_rfl) ?_
            gi_wp2_with fail
            go_ret3
            exact ⟨.slice none 0 0, by rw [HE.out]; rfl, by rw [HE.out]; exact ⟨[], rfl, fun i h => by simp at h, .inl ⟨rfl, rfl⟩⟩, HKw.out.below (fun g hg => hg)⟩
        · have hae' : ((a : Int) == i) = false := by rw [beq_eq_false_iff_ne]; omega
          obtain ⟨t, ht⟩ : ∃ t, (s.drop a).take (i - a) = t := ⟨_, rfl⟩
          have htr : s.drop a = t := by rw [← ht, List.take_of_length_le (by simp; omega)]
          have htl2 : t.length + a = i := by rw [← ht]; simp; omega
          have hno : ∀ c ∈ t, c ≠ 10 := by rw [← ht]; exact HII.out.no
          obtain ⟨l1, l3⟩ := Tk.line_none t hno
          have hne : s.drop a ≠ [] := by rw [htr]; intro e; rw [e] at htl2; simp at htl2; omega
          have hec := Tk.ent_cons hne n st
          rw [← HII.out.spec, htr, l3, show Tk.line1 t = t by unfold Tk.line1; rw [l1]; rfl] at hec
          have HEC := Lib.hid hec
          have HHI := Lib.hid (show ∀ (x' : Tk.Lx) (st' : Tk.St) (w2 : World), Tk.stepL st n t = .ok st' → Tk.LxRd (fun g => g < w.heap.size) w.heap.size x' w2 → Keep (fun g => g < w.heap.size) w w2 → Tk.LSim x' st' → Tk.ReI s (i + 1) (i + 1) (n + 1) x' st' w w2 from fun x' st' w2 hst hr hk hsm => by
            obtain ⟨q1, q2, q3⟩ := Tk.step_grows hst HII.out.deep
            have hw := HII.out.words
            have ho := HII.out.out
            rw [hst] at hec
            exact ⟨Nat.le_refl _, by omega, fun _ => rfl, fun c h => by simp at h, hsm, by rw [List.drop_of_length_le (by omega)]; exact hec, hr, hk, q1, by omega, by omega, by omega⟩)
          have HB1 := Lib.hid (show t.length ≤ 900000 ∧ st.words.length + t.length ≤ 900000 ∧ st.out.length ≤ 900000 by
            have hw := HII.out.words
            have ho := HII.out.out
            exact ⟨by omega, by omega, by omega⟩)
          have HEND := Lib.hid hend
          have hnum2 : (n : Int) ≤ 900000 := by omega
          have hil : (i : Int) ≤ 900000 := by omega
          clear htr hno l1 l3 hne hec hend hae hlt htl2
          gi_wp2_with fail
          refine (callsIn_wide.2 (rline_any (fun g => g < w.heap.size) w.heap.size x st t n _ HII.out.rd HII.out.sim HB1.out.1 HII.out.deep HB1.out.2.1 HB1.out.2.2)).mono ?_
          rintro e w2 ⟨hk2, hl2⟩
          have HK2 := Lib.hid (HII.out.keep.trans hk2)
          rcases hst : Tk.stepL st n t with z | st'
          · rw [hst] at hl2
            obtain ⟨hz, rfl⟩ := hl2
            have hz' : (z != 0) = true := by simpa using hz
            have HE := Lib.hid (show Tk.entries s = ([], n, z) by unfold Tk.entries; rw [HEC.out, hst]; rfl)
            clear hst hz hk2
            gi_wp2_with fail
            go_ret3
            exact ⟨.slice none 0 0, by rw [HE.out]; rfl, by rw [HE.out]; exact ⟨[], rfl, fun i h => by simp at h, .inl ⟨rfl, rfl⟩⟩, HK2.out.below (fun g hg => hg)⟩
          · rw [hst] at hl2
            obtain ⟨rfl, x', hr2, hs2⟩ := hl2
            have HN := Lib.hid (HHI.out x' st' w2 hst hr2 HK2.out hs2)
            clear hst hr2 hs2 hk2
            gi_wp2_with fail
            exact ⟨⟨i + 1, n + 1, i + 1, x', st', by go_num, by go_num, by go_num, HN.out⟩, by have := HEND.out; simp [intOf]; omega⟩
      · have hle' : ¬ (i : Int) ≤ s.length := by omega
        have hsa : s.length ≤ a := by have := HII.out.al (by omega); omega
        clear hend hlt
        have hsp := HII.out.spec
        rw [List.drop_of_length_le hsa, Tk.ent_nil] at hsp
        have hsim := HII.out.sim
        obtain ⟨vo, o, cap, hcell, hz, hb, hen⟩ := HII.out.rd.cells
        have c0 := hcell 0 _ rfl
        have c5 := hcell 5 _ rfl
        have c6 := hcell 6 _ rfl
        have HEN := Lib.hid hen
        have hop := hsim.opn
        clear hcell hen
        by_cases hopn : st.opens = []
        · have HE := Lib.hid (show Tk.entries s = (x.out, 0, 0) by unfold Tk.entries; rw [hsp, hsim.out]; simp [Tk.finish, hopn])
          have h5 : ¬ (0 : Int) < x.opn := by rw [hop, hopn]; simp
          clear hsp hsim hop hopn
          gi_wp2_with fail
          go_ret3
          exact ⟨vo, by rw [HE.out]; rfl, by rw [HE.out]; exact HEN.out.kept (fun _ _ => trivial) (Nat.le_refl _) (fun _ _ _ => rfl), HII.out.keep.below (fun g hg => hg)⟩
        · obtain ⟨n0, rs, hno⟩ : ∃ n0 rs, st.opens = n0 :: rs := by
            rcases h : st.opens with _ | ⟨n0, rs⟩
            · exact absurd h hopn
            · exact ⟨n0, rs, rfl⟩
          have HE := Lib.hid (show Tk.entries s = ([], x.first, 2) by unfold Tk.entries; rw [hsp, hsim.first n0 rs hno]; simp [Tk.finish, hno])
          have h5 : (0 : Int) < x.opn := by rw [hop, hno]; simp
          clear hsp hsim hop hopn hno
          gi_wp2_with fail
          refine drawnH [3, 4] (fun w' => w'.cell? ⟨w.heap.size, 6, none⟩ = some (.int .i64 x.first)) 7 rfl (by kernel_rfl) ?_
          intro w' hw'
          have hS : w'.cell? ⟨w.heap.size, 6, none⟩ = some (.int .i64 x.first) := by subst hw'; exact c6
          have HKw := Lib.hid (show Keep (fun g => g < w.heap.size) w w' by subst hw'; exact HII.out.keep.drew)
          clear hw' c6 c5 c0
          refine takeP 0 (v := ?nbv0) (fun _ => trivial) (by rfl) (by kernel_rfl) (.inl ⟨by kernel_rfl, fun w1 _ => ?nby0⟩) ?_
          case nby0 => (go_simp; try first | rfl | (rw [if_pos (by omega)]) | (rw [if_neg (by omega)]) | (rw [if_neg (by simp; omega)]) | (split <;> first | (exfalso; omega) | rfl))
          refine takeP 1 (v := ?nbv1) (fun _ => trivial) (by rfl) (by kernel_rfl) (.inl ⟨by kernel_rfl, fun w1 _ => ?nby1⟩) ?_
          case nby1 => (go_simp; try first | rfl | (rw [if_pos (by omega)]) | (rw [if_neg (by omega)]) | (rw [if_neg (by simp; omega)]) | (split <;> first | (exfalso; omega) | rfl))
          refine takeP 2 (v := ?nbv2) (fun _ => trivial) (by rfl) (by kernel_rfl) (.inl ⟨by kernel_rfl, fun w1 _ => ?nby2⟩) ?_
          case nby2 => (go_simp; try first | rfl | (rw [if_pos (by omega)]) | (rw [if_neg (by omega)]) | (rw [if_neg (by simp; omega)]) | (split <;> first | (exfalso; omega) | rfl))
          refine takeH 3 (v := ?nbv3) (fun _ => trivial) (by rfl) (by kernel_rfl) hS (.inl ⟨by kernel_rfl, fun w1 a1 => ?nby3⟩) ?_
          case nby3 => (go_simp; try first | rfl | (rw [if_pos (by omega)]) | (rw [if_neg (by omega)]) | (rw [if_neg (by simp; omega)]) | (split <;> first | (exfalso; omega) | rfl))
          refine oneH 4 (by rfl) (by kernel_rfl) (fun K hK => ?_)
          gi_wp2_with fail
          refine hK _ _ (fun _ => hS) ?_
          clear hK K
          refine oneH 5 (by rfl) (by kernel_rfl) (fun K hK => ?_)
          gi_wp2_with fail
          refine hK _ _ (fun h => absurd h (by decide)) ?_
          clear hK K
          refine oneH 6 (by rfl) (by kernel_rfl) (fun K hK => ?_)
          gi_wp2_with fail
          refine hK _ _ (fun h => absurd h (by decide)) ?_
          clear hK K
          refine doneH (by kernel_rfl) ?_
          gi_wp2_with fail
          go_ret3
          exact ⟨.slice none 0 0, by rw [HE.out]; rfl, by rw [HE.out]; exact ⟨[], rfl, fun i h => by simp at h, .inl ⟨rfl, rfl⟩⟩, HKw.out.below (fun g hg => hg)⟩
end Go.Proofs.Yticljagcigiejaa
