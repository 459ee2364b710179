/- Names: another end instead of a name's own. -/
import Derived.Test.YtikibmeopndncaaNmI
namespace Go.Proofs.Ytikibmeopndncaa
open Go.RowKit Go.Shelf
set_option maxRecDepth 100000

theorem Rd.init {o l cap} {W : World} (h : Rd (.slice o l.length cap) l W) (j : Nat) (hj : j ≤ l.length) : Rd (.slice o j cap) (l.take j) W := by
  obtain ⟨_, _, e, h1, h2, h3, h4⟩ := h; cases e
  have hl : (l.take j).length = j := by simp; omega
  refine ⟨o, cap, by rw [hl], by omega, h2, h3, fun k hk => ?_⟩
  obtain ⟨a, ha, hc⟩ := h4 k (by omega)
  exact ⟨a, ha, by rw [hc]; simp⟩
def RdErr (p : List (List UInt8) × Int) (w : World) (e : Ending) (w' : World) : Prop := ∃ v, e = .returned (.tuple #[v, .int .i64 p.2]) ∧ Rd v p.1 w' ∧ Below w.heap.size w w'
theorem NB.append {a b : List (List UInt8)} (ha : NB a) (hb : NB b) (h : a.length + b.length ≤ 1000) : NB (a ++ b) := ⟨by simpa using h, fun x hx => by
  rcases List.mem_append.1 hx with h | h
  · exact ha.2 x h
  · exact hb.2 x h⟩

theorem Nm.swap_not {n f t : List (List UInt8)} (h : Nm.under n f = false) : Nm.swap n f t = ([], 12) := by simp [Nm.swap, h]
theorem Nm.swap_bad {n f t : List (List UInt8)} (h : Nm.under n f = true) (hc : Nm.check (n.take (n.length - f.length) ++ t) ≠ 0) : Nm.swap n f t = ([], 7) := by simp [Nm.swap, h, hc]
theorem Nm.swap_ok {n f t : List (List UInt8)} (h : Nm.under n f = true) (hc : Nm.check (n.take (n.length - f.length) ++ t) = 0) : Nm.swap n f t = (n.take (n.length - f.length) ++ t, 0) := by simp [Nm.swap, h, hc]
theorem Nm.under_le' {n f : List (List UInt8)} (h : Nm.under n f = true) : f.length ≤ n.length := by
  simp [Nm.under] at h; exact h.1

set_option maxHeartbeats 2000000 in
theorem refSwap_any (v u x : Value) (n f t : List (List UInt8)) (w : World) (hv : Rd v n w) (hu : Rd u f w) (hx : Rd x t w) (hn : NB n) (hf : NB f) (ht : NB t) (hnt : n.length + t.length ≤ 1000) :
    Calls Try.prog 44 #[v, u, x] w (RdErr (Nm.swap n f t) w) := by
  have HV := Lib.hid (show ∀ wr, Below w.heap.size w wr → Rd v n wr from fun wr hb => hv.below hb)
  have HX := Lib.hid (show ∀ wr, Below w.heap.size w wr → Rd x t wr from fun wr hb => hx.below hb)
  obtain ⟨o, cap, rfl, h1, h2⟩ := hv.form
  obtain ⟨o', cap', rfl, h1', h2'⟩ := hu.form
  obtain ⟨ox, capx, rfl, hx1, hx2⟩ := hx.form
  have n1 : (n.length : Int) ≤ 1000 := by have := hn.1; omega
  have f1 : (f.length : Int) ≤ 1000 := by have := hf.1; omega
  rcases hun : Nm.under n f with _ | _
  · have HS := Lib.hid (Nm.swap_not (t := t) hun)
    have HU := Lib.hid hun
    clear hun
    go_enter Try.func44, Try.ntmps44
    go_wp2_with fail
    refine (refUnder_any _ _ n f _ hv hu hn hf).mono ?_
    rintro e w1 ⟨rfl, b1⟩
    rw [HU.out]
    go_wp2_with fail
    go_ret2
    exact ⟨_, by rw [HS.out]; rfl, by rw [HS.out]; exact Rd.nil _, b1⟩
  · have hle := Nm.under_le' hun
    have hle' : (f.length : Int) ≤ n.length := by omega
    have hNB : NB (n.take (n.length - f.length) ++ t) := (hn.take _).append ht (by simp; omega)
    have HI := Lib.hid (show ∀ wr, Below w.heap.size w wr → Rd (.slice o (n.length - f.length) cap) (n.take (n.length - f.length)) wr from fun wr hb => (HV.out wr hb).init _ (by omega))
    have hlen : (n.take (n.length - f.length)).length = n.length - f.length := by simp
    obtain ⟨i, hi⟩ : ∃ i, n.take (n.length - f.length) = i := ⟨_, rfl⟩
    obtain ⟨z, hz⟩ : ∃ z, Nm.check (i ++ t) = z := ⟨_, rfl⟩
    have hsw : Nm.swap n f t = if z = 0 then (i ++ t, 0) else ([], 7) := by rw [← hz, ← hi]; simp [Nm.swap, hun]
    rw [hi] at hlen hNB HI
    have HL := Lib.hid hlen
    have HZ := Lib.hid hz
    have HSW := Lib.hid hsw
    have HU := Lib.hid hun
    have HNB := Lib.hid hNB
    clear hun hlen hz hsw hNB hi
    refine (callsIn_wide (n := 0)).1 ?_
    refine callsIn_of_wp Try.func44 rfl trivial ?_ rfl
    simp only [Try.ntmps44, List.size_toArray, List.length_cons, List.length_nil, Nat.reduceAdd, Nat.reduceSub, Array.replicate_succ, Array.replicate_zero, List.push_toArray, List.append_toArray, List.nil_append, List.cons_append]
    gi_wp2_with (first
      | (gi_at_call 37; refine (callsIn_wide.2 (refUnder_any _ _ n f _ hv hu hn hf)).mono ?_; rintro e w1 ⟨rfl, b1⟩; rw [HU.out])
      | (gi_at_builtin; refine append_rd (Own w) rfl _ _ _ Try.underlying40 rfl _ 0 [] (by rfl) ((row_empty w1).mono (fun g hg => Nat.le_trans b1.size hg)) _ i (by rfl) ((HI.out w1 b1).below ((Below.refl _ _).alloc (Nat.le_refl _) _) |> fun h => by rw [← HL.out] at h; rw [← HL.out]; exact h) (by rw [HL.out]; omega) (by have := b1.size; simp; omega) ?_; intro v2 w2 hrow2 hgr2; have hrow2' : Row (Own w) 9 1 v2 i.length (i.map S) w2 := (by simpa using hrow2); have hb2 : Below w.heap.size w w2 := (b1.alloc b1.size _).grown hgr2 (by have := b1.size; simp; omega) (fun g hg => by cases hg; exact b1.size))
      | (gi_at_builtin; refine append_rd (Own w) rfl _ _ _ Try.underlying40 rfl _ _ i (by rfl) hrow2' _ t (by rfl) (HX.out w2 hb2) (by rw [HL.out]; omega) (by have := hb2.size; omega) ?_; intro v3 w3 hrow3 hgr3))
    have hb3 := hb2.grown hgr3 hb2.size (fun g hg => hrow2'.2 g hg)
    rw [show i.length + t.length = (i ++ t).length by simp] at hrow3
    have hr3 := Rd.of_row hrow3
    refine (callsIn_wide.2 (refCheckName_any _ (i ++ t) _ hr3 HNB.out)).mono ?_
    rintro e w4 ⟨rfl, b4⟩
    rw [HZ.out]
    have hb4 := below5 hb3 b4
    have hr4 := hr3.below b4
    have HR4 := Lib.hid hr4
    clear hr3 hr4 hrow3
    by_cases h0 : z = 0
    · subst h0
      gi_wp2_with fail
      go_ret2
      exact ⟨_, by rw [HSW.out]; rfl, by rw [HSW.out]; exact HR4.out, hb4⟩
    · have hz' : (z != 0) = true := by simpa using h0
      have HSW' := Lib.hid (show Nm.swap n f t = ([], 7) by rw [HSW.out, if_neg h0])
      clear h0
      gi_wp2_with fail
      go_ret2
      exact ⟨_, by rw [HSW'.out]; rfl, by rw [HSW'.out]; exact Rd.nil _, hb4⟩
set_option maxHeartbeats 2000000 in
theorem nSwap_any (v u x : Value) (n f t : List (List UInt8)) (w : World) (hv : Rd v n w) (hu : Rd u f w) (hx : Rd x t w) (hn : NB n) (hf : NB f) (ht : NB t) (hnt : n.length + t.length ≤ 1000) :
    Calls Try.prog 43 #[v, u, x] w (RdErr (Nm.swap n f t) w) := by
  have HV := Lib.hid (show ∀ wr, Below w.heap.size w wr → Rd v n wr from fun wr hb => hv.below hb)
  have HX := Lib.hid (show ∀ wr, Below w.heap.size w wr → Rd x t wr from fun wr hb => hx.below hb)
  obtain ⟨o, cap, rfl, h1, h2⟩ := hv.form
  obtain ⟨o', cap', rfl, h1', h2'⟩ := hu.form
  obtain ⟨ox, capx, rfl, hx1, hx2⟩ := hx.form
  have n1 : (n.length : Int) ≤ 1000 := by have := hn.1; omega
  have f1 : (f.length : Int) ≤ 1000 := by have := hf.1; omega
  rcases hun : Nm.under n f with _ | _
  · have HS := Lib.hid (Nm.swap_not (t := t) hun)
    have HU := Lib.hid hun
    clear hun
    go_enter Try.func43, Try.ntmps43
    go_wp2_with fail
    refine (nUnder_any _ _ n f _ hv hu hn hf).mono ?_
    rintro e w1 ⟨rfl, b1⟩
    rw [HU.out]
    go_wp2_with fail
    go_ret2
    exact ⟨_, by rw [HS.out]; rfl, by rw [HS.out]; exact Rd.nil _, b1⟩
  · have hle := Nm.under_le' hun
    have hle' : (f.length : Int) ≤ n.length := by omega
    have hNB : NB (n.take (n.length - f.length) ++ t) := (hn.take _).append ht (by simp; omega)
    have HI := Lib.hid (show ∀ wr, Below w.heap.size w wr → Rd (.slice o (n.length - f.length) cap) (n.take (n.length - f.length)) wr from fun wr hb => (HV.out wr hb).init _ (by omega))
    have hlen : (n.take (n.length - f.length)).length = n.length - f.length := by simp
    obtain ⟨i, hi⟩ : ∃ i, n.take (n.length - f.length) = i := ⟨_, rfl⟩
    obtain ⟨z, hz⟩ : ∃ z, Nm.check (i ++ t) = z := ⟨_, rfl⟩
    have hsw : Nm.swap n f t = if z = 0 then (i ++ t, 0) else ([], 7) := by rw [← hz, ← hi]; simp [Nm.swap, hun]
    rw [hi] at hlen hNB HI
    have HL := Lib.hid hlen
    have HZ := Lib.hid hz
    have HSW := Lib.hid hsw
    have HU := Lib.hid hun
    have HNB := Lib.hid hNB
    clear hun hlen hz hsw hNB hi
    refine (callsIn_wide (n := 0)).1 ?_
    refine callsIn_of_wp Try.func43 rfl trivial ?_ rfl
    simp only [Try.ntmps43, List.size_toArray, List.length_cons, List.length_nil, Nat.reduceAdd, Nat.reduceSub, Array.replicate_succ, Array.replicate_zero, List.push_toArray, List.append_toArray, List.nil_append, List.cons_append]
    have HNI := Lib.hid (show NB i from ⟨by have := HNB.out.1; simp at this; omega, fun y hy => HNB.out.2 y (List.mem_append_left _ hy)⟩)
    gi_wp2_with (first
      | (gi_at_call 36; refine (callsIn_wide.2 (nUnder_any _ _ n f _ hv hu hn hf)).mono ?_; rintro e w1 ⟨rfl, b1⟩; rw [HU.out])
      | (gi_at_call 62; refine (callsIn_wide.2 (clone_any _ i _ (HL.out ▸ HI.out w1 b1) HNI.out)).mono ?_; rintro e w2 ⟨v2, rfl, hrow2, b2⟩; have hb2 := below5 b1 b2; have hrow2' : Row (Own w) 9 1 v2 i.length (i.map S) w2 := hrow2.mono (fun g hg => Nat.le_trans b1.size hg))
      | (gi_at_builtin; refine append_rd (Own w) rfl _ _ _ Try.underlying44 rfl _ _ i (by rfl) hrow2' _ t (by rfl) (HX.out w2 hb2) (by rw [HL.out]; omega) (by have := hb2.size; omega) ?_; intro v3 w3 hrow3 hgr3))
    have hb3 := hb2.grown hgr3 hb2.size (fun g hg => hrow2'.2 g hg)
    rw [show i.length + t.length = (i ++ t).length by simp] at hrow3
    have hr3 := Rd.of_row hrow3
    refine (callsIn_wide.2 (nCheck_any _ (i ++ t) _ hr3 HNB.out)).mono ?_
    rintro e w4 ⟨rfl, b4⟩
    rw [HZ.out]
    have hb4 := below5 hb3 b4
    have hr4 := hr3.below b4
    have HR4 := Lib.hid hr4
    clear hr3 hr4 hrow3
    by_cases h0 : z = 0
    · subst h0
      gi_wp2_with fail
      refine (callsIn_wide.2 (clip_any _ (i ++ t) _ HR4.out HNB.out)).mono ?_
      rintro e w5 ⟨v5, rfl, hr5, rfl⟩
      gi_wp2_with fail
      go_ret2
      exact ⟨_, by rw [HSW.out]; rfl, by rw [HSW.out]; exact hr5, hb4⟩
    · have hz' : (z != 0) = true := by simpa using h0
      have HSW' := Lib.hid (show Nm.swap n f t = ([], 7) by rw [HSW.out, if_neg h0])
      clear h0
      gi_wp2_with fail
      go_ret2
      exact ⟨_, by rw [HSW'.out]; rfl, by rw [HSW'.out]; exact Rd.nil _, hb4⟩
end Go.Proofs.Ytikibmeopndncaa
