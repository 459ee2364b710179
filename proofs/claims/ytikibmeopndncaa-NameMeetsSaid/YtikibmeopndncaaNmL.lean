/- A text as a name. -/
import Derived.Test.YtikibmeopndncaaNmK
namespace Go.Proofs.Ytikibmeopndncaa
open Go.RowKit Go.Shelf
set_option maxRecDepth 100000

theorem NB.short {n : List (List UInt8)} (h : n.length ≤ 800) (hs : ∀ x ∈ n, x.length ≤ 63) : NB n := ⟨by omega, fun x hx => by have := hs x hx; omega⟩

def Nm.parseB (r : Except Int (List (List UInt8) × Bool)) (n : List (List UInt8)) : List (List UInt8) × Int := match r with
  | .error e => ([], e)
  | .ok (m, true) => Nm.fin m
  | .ok (m, false) => Nm.fin (m ++ n)

set_option maxHeartbeats 2000000 in
theorem nParse_any (s : List UInt8) (v : Value) (n : List (List UInt8)) (w : World) (hv : Rd v n w) (hn : NB n) (hn1 : n.length ≤ 200) (hs : s.length ≤ 1000000) (hl : ∀ l, Lb.split s = some l → l.length ≤ 800 ∧ ∀ x ∈ l, x.length ≤ 1000000) :
    Calls Try.prog 31 #[S s, v] w (RdErr (Nm.parse s n) w) := by
  by_cases h64 : s = [64]
  · subst h64
    clear hl
    go_enter Try.func31, Try.ntmps31
    go_wp2_with fail
    refine (clone_any v n _ hv hn).mono ?_
    rintro e w1 ⟨v1, rfl, hr1, b1⟩
    go_wp2_with fail
    refine (clip_any v1 n _ hr1.rdOf hn).mono ?_
    rintro e w2 ⟨v2, rfl, hr2, rfl⟩
    go_wp2_with fail
    go_ret2
    exact ⟨_, rfl, hr2, b1⟩
  by_cases h46 : s = [46]
  · subst h46
    clear hl
    go_enter Try.func31, Try.ntmps31
    go_wp2_with fail
    go_ret2
    exact ⟨_, rfl, Rd.of_row (row_empty w), (Below.refl _ _).alloc (Nat.le_refl _) _⟩
  by_cases h0 : s = []
  · subst h0
    clear hl
    go_enter Try.func31, Try.ntmps31
    go_wp2_with fail
    go_ret2
    exact ⟨_, rfl, Rd.nil _, Below.refl _ _⟩
  have f1 : (s == [64]) = false := by simpa using h64
  have f2 : (s == [46]) = false := by simpa using h46
  have f3 : (s == []) = false := by simpa using h0
  have hP : Nm.parse s n = Nm.parseB (Nm.parts s) n := by
    unfold Nm.parse; rw [if_neg h64, if_neg h46, if_neg h0]
    rcases Nm.parts s with e | ⟨m, b⟩
    · rfl
    · cases b <;> rfl
  have HL := Lib.hid (parts_any s · hs h0 hl)
  obtain ⟨p, hp⟩ : ∃ p, Nm.parts s = p := ⟨_, rfl⟩
  rw [hp] at hP HL
  have HV := Lib.hid (show ∀ wr, Below w.heap.size w wr → Rd v n wr from fun wr hb => hv.below hb)
  obtain ⟨o, cap, rfl, h1, h2⟩ := hv.form
  clear h64 h46 h0 hp hl hv
  rcases p with z | ⟨m, bb⟩
  · replace hP : Nm.parse s n = ([], z) := hP
    have HP := Lib.hid hP
    clear hP
    go_enter Try.func31, Try.ntmps31
    go_wp2_with fail
    refine (HL.out _).mono ?_
    rintro e w1 ⟨b1, hz, rfl⟩
    have hz' : (z != 0) = true := by simpa using hz
    clear hz
    go_wp2_with fail
    go_ret2
    exact ⟨_, by rw [HP.out]; rfl, by rw [HP.out]; exact Rd.nil _, b1⟩
  · cases bb
    · have HP := Lib.hid (show Nm.parse s n = Nm.fin (m ++ n) from hP)
      clear hP
      refine (callsIn_wide (n := 0)).1 ?_
      refine callsIn_of_wp Try.func31 rfl trivial ?_ rfl
      simp only [Try.ntmps31, List.size_toArray, List.length_cons, List.length_nil, Nat.reduceAdd, Nat.reduceSub, Array.replicate_succ, Array.replicate_zero, List.push_toArray, List.append_toArray, List.nil_append, List.cons_append]
      gi_wp2_with fail
      refine (callsIn_wide.2 (HL.out _)).mono ?_
      rintro e w1 ⟨b1, m1, m2, v1, rfl, hr1⟩
      have HNB := Lib.hid ((NB.short m1 m2).append hn (by omega))
      have HR := Lib.hid hr1
      clear hr1 m2
      gi_wp2_with (gi_at_builtin; refine append_rd (Own w) rfl _ _ _ Try.underlying44 rfl _ _ m (by rfl) HR.out _ n (by rfl) (HV.out _ b1) (by omega) (b1.size) ?_; intro v3 w3 hrow3 hgr3)
      have hb3 := b1.grown hgr3 b1.size (fun g hg => HR.out.2 g hg)
      rw [show m.length + n.length = (m ++ n).length by simp] at hrow3
      have HR3 := Lib.hid (Rd.of_row hrow3)
      clear hrow3
      refine (callsIn_wide.2 (nCheck_any v3 (m ++ n) _ HR3.out HNB.out)).mono ?_
      rintro e w2 ⟨rfl, b2⟩
      have HR2 := Lib.hid (HR3.out.below b2)
      have hb2 := below5 hb3 b2
      obtain ⟨z, hz⟩ : ∃ z, Nm.check (m ++ n) = z := ⟨_, rfl⟩
      have hf : Nm.fin (m ++ n) = if z = 0 then (m ++ n, 0) else ([], z) := by unfold Nm.fin; rw [hz]
      rw [hz]
      have HZ := Lib.hid hz
      have HF := Lib.hid hf
      clear hz hf
      by_cases h0 : z = 0
      · subst h0
        gi_wp2_with fail
        refine (callsIn_wide.2 (clip_any v3 (m ++ n) _ HR2.out HNB.out)).mono ?_
        rintro e w4 ⟨v4, rfl, hr4, rfl⟩
        gi_wp2_with fail
        go_ret2
        exact ⟨_, by rw [HP.out, HF.out]; rfl, by rw [HP.out, HF.out]; exact hr4, hb2⟩
      · have hz' : (z != 0) = true := by simpa using h0
        have HF' := Lib.hid (show Nm.fin (m ++ n) = ([], z) by rw [HF.out, if_neg h0])
        clear h0
        gi_wp2_with fail
        go_ret2
        exact ⟨_, by rw [HP.out, HF'.out]; rfl, by rw [HP.out, HF'.out]; exact Rd.nil _, hb2⟩
    · have HP := Lib.hid (show Nm.parse s n = Nm.fin m from hP)
      clear hP
      go_enter Try.func31, Try.ntmps31
      go_wp2_with fail
      refine (HL.out _).mono ?_
      rintro e w1 ⟨b1, m1, m2, v1, rfl, hr1⟩
      have HNB := Lib.hid (NB.short m1 m2)
      have HR := Lib.hid hr1.rdOf
      clear hr1 m2
      go_wp2_with fail
      refine (nCheck_any v1 m _ HR.out HNB.out).mono ?_
      rintro e w2 ⟨rfl, b2⟩
      have HR2 := Lib.hid (HR.out.below b2)
      have hb2 := below5 b1 b2
      obtain ⟨z, hz⟩ : ∃ z, Nm.check m = z := ⟨_, rfl⟩
      have hf : Nm.fin m = if z = 0 then (m, 0) else ([], z) := by unfold Nm.fin; rw [hz]
      rw [hz]
      have HZ := Lib.hid hz
      have HF := Lib.hid hf
      clear hz hf
      by_cases h0 : z = 0
      · subst h0
        go_wp2_with fail
        refine (clip_any v1 m _ HR2.out HNB.out).mono ?_
        rintro e w3 ⟨v3, rfl, hr3, rfl⟩
        go_wp2_with fail
        go_ret2
        exact ⟨_, by rw [HP.out, HF.out]; rfl, by rw [HP.out, HF.out]; exact hr3, hb2⟩
      · have hz' : (z != 0) = true := by simpa using h0
        have HF' := Lib.hid (show Nm.fin m = ([], z) by rw [HF.out, if_neg h0])
        clear h0
        go_wp2_with fail
        go_ret2
        exact ⟨_, by rw [HP.out, HF'.out]; rfl, by rw [HP.out, HF'.out]; exact Rd.nil _, hb2⟩
end Go.Proofs.Ytikibmeopndncaa
