/- A text as a name, as the document reads it. -/
import Derived.Test.YtikibmeopndncaaNmL
namespace Go.Proofs.Ytikibmeopndncaa
open Go.RowKit Go.Shelf
set_option maxRecDepth 100000

theorem refParse_at (s l : List UInt8) (z : Int) (h : Lb.parse s = (l, z)) (w : World) (hs : s.length ≤ 1000000) :
    Calls Try.prog 65 #[S s] w fun e w' => e = .returned (.tuple #[S l, .int .i64 z]) ∧ Below w.heap.size w w' := by
  have := refParse_any s w hs; rw [h] at this; exact this

/-- where the reading of the parts stands: the labels that are read, whether the last part was none -/
def RpAt (w : World) (l : List (List UInt8)) (k : Nat) (acc : List (List UInt8)) (b : Bool) (v : Value) (wr : World) : Prop :=
  acc.length ≤ 800 ∧ (∀ x ∈ acc, x.length ≤ 63) ∧ Row (Own w) 9 1 v acc.length (acc.map S) wr ∧ (b = false → Nm.PtAt l acc k) ∧ (b = true → k = l.length ∧ Nm.partsF l = .ok (acc, true))

set_option maxHeartbeats 4000000 in
theorem refParseName_any (s : List UInt8) (v : Value) (n : List (List UInt8)) (w : World) (hv : Rd v n w) (hn : NB n) (hn1 : n.length ≤ 200) (hs : s.length ≤ 1000000) (hl : ∀ l, Lb.split s = some l → l.length ≤ 800 ∧ ∀ x ∈ l, x.length ≤ 1000000) :
    Calls Try.prog 32 #[S s, v] w (RdErr (Nm.parse s n) w) := by
  by_cases h64 : s = [64]
  · subst h64
    clear hl
    refine (callsIn_wide (n := 0)).1 ?_
    refine callsIn_of_wp Try.func32 rfl trivial ?_ rfl
    simp only [Try.ntmps32, List.size_toArray, List.length_cons, List.length_nil, Nat.reduceAdd, Nat.reduceSub, Array.replicate_succ, Array.replicate_zero, List.push_toArray, List.append_toArray, List.nil_append, List.cons_append]
    gi_wp2_with (gi_at_builtin; refine append_rd (Own w) rfl _ _ _ Try.underlying40 rfl _ 0 [] (by rfl) (row_empty w) _ n (by rfl) (hv.kept fun p hp => (World.cell?_of_block (Below.heap_alloc _ _ _ (by omega)))) (by omega) (by simp) ?_; intro v' w' hrow hgr)
    simp only [Nat.zero_add, List.nil_append] at hrow
    go_ret2
    exact ⟨_, rfl, Rd.of_row hrow, ((Below.refl _ _).alloc (Nat.le_refl _) _).grown hgr (by simp) (fun g hg => by cases hg; exact Nat.le_refl _)⟩
  by_cases h46 : s = [46]
  · subst h46
    clear hl
    go_enter Try.func32, Try.ntmps32
    go_wp2_with fail
    go_ret2
    exact ⟨_, rfl, Rd.nil _, Below.refl _ _⟩
  by_cases h0 : s = []
  · subst h0
    clear hl
    go_enter Try.func32, Try.ntmps32
    go_wp2_with fail
    go_ret2
    exact ⟨_, rfl, Rd.nil _, Below.refl _ _⟩
  have f1 : (s == [64]) = false := by simpa using h64
  have f2 : (s == [46]) = false := by simpa using h46
  have f3 : (s == []) = false := by simpa using h0
  have hP : Nm.parse s n = Nm.parseB (Nm.parts s) n := by
    unfold Nm.parse; rw [if_neg h64, if_neg h46, if_neg h0]
    rcases Nm.parts s with e | ⟨m, b⟩
    · rfl
    · cases b <;> rfl
  have HV := Lib.hid (show ∀ wr, Below w.heap.size w wr → Rd v n wr from fun wr hb => hv.below hb)
  obtain ⟨o, capo, rfl, ho1, ho2⟩ := hv.form
  clear h64 h46 hv
  rcases hsp : Lb.split s with _ | l
  · have HP := Lib.hid (show Nm.parse s n = ([], 2) by rw [hP]; unfold Nm.parts; rw [hsp]; rfl)
    have HS := Lib.hid hsp
    clear hsp hl hP h0
    go_enter Try.func32, Try.ntmps32
    go_wp2_with fail
    refine (refSplit_none s HS.out _ hs).mono ?_
    rintro e w1 ⟨rfl, b1⟩
    go_wp2_with fail
    go_ret2
    exact ⟨_, by rw [HP.out]; rfl, by rw [HP.out]; exact Rd.nil _, b1⟩
  · have HP := Lib.hid (show Nm.parse s n = Nm.parseB (Nm.partsF l) n by rw [hP]; unfold Nm.parts; rw [hsp])
    have hpos := Lb.split_pos hsp
    obtain ⟨hl1, hl2⟩ := hl l hsp
    have HX := Lib.hid hl2
    have HS := Lib.hid hsp
    have l800 : (l.length : Int) ≤ 800 := by omega
    clear hsp hl hl2 h0 hP
    refine (callsIn_wide (n := 0)).1 ?_
    refine callsIn_of_wp Try.func32 rfl trivial ?_ rfl
    simp only [Try.ntmps32, List.size_toArray, List.length_cons, List.length_nil, Nat.reduceAdd, Nat.reduceSub, Array.replicate_succ, Array.replicate_zero, List.push_toArray, List.append_toArray, List.nil_append, List.cons_append]
    gi_wp2_with fail
    refine (callsIn_wide.2 (refSplit_at s l HS.out hpos _ hs)).mono ?_
    rintro e w1 ⟨g, off, cap, rfl, ⟨c1, c2, c3, c4⟩, b1⟩
    have HC := Lib.hid (show ∀ wr, Below w1.heap.size w1 wr → ∀ j (h : j < l.length), wr.cell? ⟨g, off + j, none⟩ = some (S l[j]) from fun wr hb j h => (hb.cell (p := ⟨g, off + j, none⟩) c3).trans (c4 j h))
    clear c4
    unfold maxLen at c2
    gi_wp2_with fail
    gi_loopw [8, 9, 10] (fun v bb i wr => ∃ (k : Nat) (acc : List (List UInt8)) (b : Bool), RpAt w1 l k acc b v wr ∧ k ≤ l.length ∧ bb = .bool b ∧ i = .int .i64 k ∧ Below w1.heap.size w1 wr) (fun _ _ i _ => l.length - (intOf i).toNat)
    case atStart => exact ⟨0, [], false, ⟨by simp, fun x h => (by cases h), Row.nil _ _ _ _, fun _ => Nm.PtAt.start l, fun h => by cases h⟩, by omega, rfl, rfl, Below.refl _ _⟩
    case round =>
      obtain ⟨k, acc, b, hrp, hkl, rfl, rfl, hb⟩ := hrel
      by_cases hlt : k < l.length
      · have hbf : b = false := by
          cases b with
          | false => rfl
          | true => have := (hrp.2.2.2.2 rfl).1; omega
        subst hbf
        obtain ⟨r1, r2, hrow, hpt, _⟩ := hrp
        replace hpt := hpt rfl
        have hal := hpt.len
        have e1 := HC.out _ hb k hlt
        have hx := HX.out _ (List.getElem_mem hlt)
        by_cases hw : l[k] = [] ∧ k + 1 = l.length
        · have HW := Lib.hid (hpt.whole hlt hw)
          have hb1 : (l[k] == []) = true := by simp [hw.1]
          have hb2 : ((k : Int) == (l.length : Int) - 1) = true := by rw [beq_iff_eq]; omega
          have HK := Lib.hid hw.2
          clear hw hpt
          gi_wp2_with fail
          exact ⟨⟨k + 1, acc, true, ⟨r1, r2, hrow, fun h => (by cases h), fun _ => ⟨HK.out, HW.out⟩⟩, by omega, rfl, by go_num, hb⟩, by simp [intOf]; omega⟩
        · have hw' : (l[k] == []) = false ∨ (l[k] == []) = true ∧ ((k : Int) == (l.length : Int) - 1) = false := by
            by_cases h : l[k] = []
            · have h2 : ¬ k + 1 = l.length := fun h2 => hw ⟨h, h2⟩
              have h3 : (l[k] == []) = true := by simp [h]
              have h4 : ((k : Int) == (l.length : Int) - 1) = false := by rw [beq_eq_false_iff_ne]; omega
              right; exact ⟨h3, h4⟩
            · left; simpa using h
          obtain ⟨⟨x, z⟩, hp⟩ : ∃ p, Lb.parse l[k] = p := ⟨_, rfl⟩
          by_cases hz : z = 0
          · subst hz
            have hgo := hpt.go hlt hw (by rw [hp])
            rw [hp] at hgo
            have HG := Lib.hid hgo
            have HPA := Lib.hid hp
            clear hpt hw hgo hp
            rcases hw' with hb1 | ⟨hb1, hb2⟩
            all_goals
              gi_wp2_with (first
                | (gi_at_call 65; refine (callsIn_wide.2 (refParse_at _ _ _ HPA.out _ hx)).mono ?_; rintro e w2 ⟨rfl, b2⟩; have hb4 := below5 hb b2)
                | (gi_at_builtin; refine append_rd (Own w1) rfl _ _ _ Try.underlying40 rfl _ acc.length _ (by rfl) ((hrow.below b2).alloc _) _ [x] (by rfl) (rd_one _ _) (by simp; omega) (by have := hb4.size; simp; omega) ?_; intro v' w' hrow' hgr))
              exact ⟨⟨k + 1, acc ++ [x], false, ⟨by have := HG.out.len; have := HG.out.le; omega, HG.out.short, by simpa using hrow', fun _ => HG.out, fun h => (by cases h)⟩, by omega, rfl, by go_num, (hb4.alloc hb4.size _).grown hgr (by have := hb4.size; simp; omega) (fun g hg => hrow.2 g hg)⟩, by simp [intOf]; omega⟩
          · have HB := Lib.hid (hpt.bad hlt hw (by rw [hp]; exact hz))
            have HPA := Lib.hid hp
            have hz' : (z != 0) = true := by simpa using hz
            clear hpt hw hp hz
            rcases hw' with hb1 | ⟨hb1, hb2⟩
            all_goals
              gi_wp2_with (gi_at_call 65; refine (callsIn_wide.2 (refParse_at _ _ _ HPA.out _ hx)).mono ?_; rintro e w2 ⟨rfl, b2⟩; have hb4 := below5 hb b2)
              go_ret2
              exact ⟨_, by rw [HP.out, HB.out, HPA.out]; rfl, by rw [HP.out, HB.out]; exact Rd.nil _, b1.trans (hb4.mono b1.size)⟩
      · obtain rfl : k = l.length := by omega
        obtain ⟨r1, r2, hrow, hpt, hpw⟩ := hrp
        have hbw : Below w.heap.size w wr := b1.trans (hb.mono b1.size)
        cases b with
        | true =>
          have HP' := Lib.hid (show Nm.parse s n = Nm.fin acc by rw [HP.out, (hpw rfl).2]; rfl)
          have HNB := Lib.hid (NB.short r1 r2)
          have HR := Lib.hid (Rd.of_row hrow)
          clear hrow hpt hpw r2
          gi_wp2_with fail
          refine (callsIn_wide.2 (refCheckName_any _ acc _ HR.out HNB.out)).mono ?_
          rintro e w2 ⟨rfl, b2⟩
          have HR2 := Lib.hid (HR.out.below b2)
          have hb2 := below5 hbw b2
          obtain ⟨z, hz⟩ : ∃ z, Nm.check acc = z := ⟨_, rfl⟩
          have hf : Nm.fin acc = if z = 0 then (acc, 0) else ([], z) := by unfold Nm.fin; rw [hz]
          rw [hz]
          have HF := Lib.hid hf
          clear hz hf
          by_cases h0 : z = 0
          · subst h0
            gi_wp2_with fail
            go_ret2
            exact ⟨_, by rw [HP'.out, HF.out]; rfl, by rw [HP'.out, HF.out]; exact HR2.out, hb2⟩
          · have hz' : (z != 0) = true := by simpa using h0
            have HF' := Lib.hid (show Nm.fin acc = ([], z) by rw [HF.out, if_neg h0])
            clear h0
            gi_wp2_with fail
            go_ret2
            exact ⟨_, by rw [HP'.out, HF'.out]; rfl, by rw [HP'.out, HF'.out]; exact Rd.nil _, hb2⟩
        | false =>
          have HP' := Lib.hid (show Nm.parse s n = Nm.fin (acc ++ n) by rw [HP.out, (hpt rfl).done (by omega)]; rfl)
          have HNB := Lib.hid ((NB.short r1 r2).append hn (by omega))
          have HR := Lib.hid hrow
          clear hrow hpt hpw r2
          gi_wp2_with (gi_at_builtin; refine append_rd (Own w1) rfl _ _ _ Try.underlying40 rfl _ _ acc (by rfl) HR.out _ n (by rfl) (HV.out _ hbw) (by omega) (hb.size) ?_; intro v3 w3 hrow3 hgr3)
          have hb3 := hbw.grown hgr3 hbw.size (fun g hg => Nat.le_trans b1.size (HR.out.2 g hg))
          rw [show acc.length + n.length = (acc ++ n).length by simp] at hrow3
          have HR3 := Lib.hid (Rd.of_row hrow3)
          clear hrow3
          refine (callsIn_wide.2 (refCheckName_any v3 (acc ++ n) _ HR3.out HNB.out)).mono ?_
          rintro e w2 ⟨rfl, b2⟩
          have HR2 := Lib.hid (HR3.out.below b2)
          have hb2 := below5 hb3 b2
          obtain ⟨z, hz⟩ : ∃ z, Nm.check (acc ++ n) = z := ⟨_, rfl⟩
          have hf : Nm.fin (acc ++ n) = if z = 0 then (acc ++ n, 0) else ([], z) := by unfold Nm.fin; rw [hz]
          rw [hz]
          have HF := Lib.hid hf
          clear hz hf
          by_cases h0 : z = 0
          · subst h0
            gi_wp2_with fail
            go_ret2
            exact ⟨_, by rw [HP'.out, HF.out]; rfl, by rw [HP'.out, HF.out]; exact HR2.out, hb2⟩
          · have hz' : (z != 0) = true := by simpa using h0
            have HF' := Lib.hid (show Nm.fin (acc ++ n) = ([], z) by rw [HF.out, if_neg h0])
            clear h0
            gi_wp2_with fail
            go_ret2
            exact ⟨_, by rw [HP'.out, HF'.out]; rfl, by rw [HP'.out, HF'.out]; exact Rd.nil _, hb2⟩
end Go.Proofs.Ytikibmeopndncaa
