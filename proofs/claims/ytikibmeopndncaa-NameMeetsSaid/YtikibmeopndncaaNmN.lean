/- The law's own 'known'. -/
import Derived.Test.YtikibmeopndncaaNmM
namespace Go.Proofs.Ytikibmeopndncaa
open Go.RowKit Go.Shelf
set_option maxRecDepth 100000

theorem rd_two (x y : List UInt8) (w : World) : Rd (.slice (some ⟨w.heap.size, 0, none⟩) 2 2) [x, y] (w.alloc (.cells #[S x, S y] 9)) := by
  refine Rd.of_row (R := Own w) (e := 9) (l := [x, y]) ⟨World.ownsRow_lit w #[S x, S y] 2 (Nat.zero_le _) (by unfold maxLen; omega) rfl, fun g hg => ?_⟩
  cases hg; exact Nat.le_refl _
theorem nParse_at (s : List UInt8) (v : Value) (n m : List (List UInt8)) (z : Int) (l : List (List UInt8)) (hp : Nm.parse s n = (m, z)) (hs : Lb.split s = some l) (w : World) (hv : Rd v n w) (hn : NB n) (hn1 : n.length ≤ 200) (hsl : s.length ≤ 1000000) (h1 : l.length ≤ 800) (h2 : ∀ x ∈ l, x.length ≤ 1000000) :
    Calls Try.prog 31 #[S s, v] w fun e w' => ∃ v', e = .returned (.tuple #[v', .int .i64 z]) ∧ Rd v' m w' ∧ Below w.heap.size w w' := by
  have := nParse_any s v n w hv hn hn1 hsl (fun l' h => by rw [hs] at h; cases h; exact ⟨h1, h2⟩)
  rw [hp] at this; exact this
theorem nSwap_at (v u x : Value) (n f t m : List (List UInt8)) (z : Int) (hsw : Nm.swap n f t = (m, z)) (w : World) (hv : Rd v n w) (hu : Rd u f w) (hx : Rd x t w) (hn : NB n) (hf : NB f) (ht : NB t) (hnt : n.length + t.length ≤ 1000) :
    Calls Try.prog 43 #[v, u, x] w fun e w' => ∃ v', e = .returned (.tuple #[v', .int .i64 z]) ∧ Rd v' m w' ∧ Below w.heap.size w w' := by
  have := nSwap_any v u x n f t w hv hu hx hn hf ht hnt
  rw [hsw] at this; exact this

theorem Rd.alloc {v l} {W : World} (h : Rd v l W) (o : Obj) : Rd v l (W.alloc o) := h.kept fun p hp => World.cell?_of_block (Below.heap_alloc _ _ _ hp)
theorem rd_two' (x y : List UInt8) (w : World) (o : Obj) : Rd (.slice (some ⟨w.heap.size + 1, 0, none⟩) 2 2) [x, y] ((w.alloc o).alloc (.cells #[S x, S y] 9)) := by
  have := rd_two x y (w.alloc o); rwa [World.size_alloc] at this
theorem below_lit {w W W' : World} {o : Obj} (h : Below w.heap.size w W) (k : Below (W.alloc o).heap.size (W.alloc o) W') : Below w.heap.size w W' := below5 (h.alloc h.size o) k

abbrev kn : List (List UInt8) := [[97], [66], [99]]
abbrev km : List (List UInt8) := [[120]]
abbrev ks : List (List UInt8) := [[97], [66], [100], [101]]
theorem nb_lit {l : List (List UInt8)} (h : (decide (l.length ≤ 1000) && l.all fun x => decide (x.length ≤ 1000)) = true) : NB l := by
  simp only [Bool.and_eq_true, decide_eq_true_eq, List.all_eq_true] at h; exact h

set_option maxHeartbeats 4000000 in
theorem known_any (w : World) : Calls Try.prog 18 #[] w (Gives (.bool true) w) := by
  have p1 := Lib.hid (show Nm.parse [97, 46, 66] [[99]] = (kn, 0) by decide +kernel)
  have p2 := Lib.hid (show Nm.parse [120, 46] [] = (km, 0) by decide +kernel)
  have p3 := Lib.hid (show Nm.parse [97, 46, 46, 98] [] = ([], 8) by decide +kernel)
  have s1 := Lib.hid (show Lb.split [97, 46, 66] = some [[97], [66]] by decide +kernel)
  have s2 := Lib.hid (show Lb.split [120, 46] = some [[120], []] by decide +kernel)
  have s3 := Lib.hid (show Lb.split [97, 46, 46, 98] = some [[97], [], [98]] by decide +kernel)
  have w1 := Lib.hid (show Nm.swap kn [[67]] [[100], [101]] = (ks, 0) by decide +kernel)
  have w2 := Lib.hid (show Nm.swap kn km [] = ([], 12) by decide +kernel)
  go_enter Try.func18, Try.ntmps18
  go_wp2_with fail
  refine (nParse_at _ _ _ _ _ _ p1.out s1.out _ (rd_one _ _) (nb_lit (by decide)) (by decide) (by decide) (by decide) (by decide)).mono ?_
  rintro e W1 ⟨v1, rfl, r1, b1⟩
  replace b1 : Below w.heap.size w W1 := ((Below.refl _ _).alloc (Nat.le_refl _) _).trans (b1.mono (by simp))
  go_wp2_with fail
  refine (nParse_at _ _ _ _ _ _ p2.out s2.out _ (Rd.nil _) (nb_lit (by decide)) (by decide) (by decide) (by decide) (by decide)).mono ?_
  rintro e W2 ⟨v2, rfl, r2, b2⟩
  replace r1 := r1.below b2
  replace b2 := below5 b1 b2
  go_wp2_with fail
  refine (nParse_at _ _ _ _ _ _ p3.out s3.out _ (Rd.nil _) (nb_lit (by decide)) (by decide) (by decide) (by decide) (by decide)).mono ?_
  rintro e W3 ⟨v3, rfl, _, b3⟩
  replace r1 := r1.below b3
  replace r2 := r2.below b3
  replace b3 := below5 b2 b3
  go_wp2_with fail
  refine (nSwap_at _ _ _ _ _ _ _ _ w1.out _ ((r1.alloc _).alloc _) ((rd_one [67] W3).alloc _) (rd_two' [100] [101] W3 _) (nb_lit (by decide)) (nb_lit (by decide)) (nb_lit (by decide)) (by decide)).mono ?_
  rintro e W4 ⟨v4, rfl, r4, b4⟩
  replace r1 := ((r1.alloc _).alloc _).below b4
  replace r2 := ((r2.alloc _).alloc _).below b4
  replace b4 := below_lit (b3.alloc b3.size _) b4
  go_wp2_with fail
  refine (nSwap_at _ _ _ _ _ _ _ _ w2.out _ r1 r2 (Rd.nil _) (nb_lit (by decide)) (nb_lit (by decide)) (nb_lit (by decide)) (by decide)).mono ?_
  rintro e W5 ⟨v5, rfl, _, b5⟩
  replace r1 := r1.below b5
  replace r2 := r2.below b5
  replace r4 := r4.below b5
  replace b5 := below5 b4 b5
  have HR1 := Lib.hid r1
  have HR2 := Lib.hid r2
  obtain ⟨o1, c1, rfl, _, _⟩ := r1.form
  obtain ⟨o2, c2, rfl, _, _⟩ := r2.form
  clear r1 r2
  have nk : NB kn := nb_lit (by decide)
  have nm : NB km := nb_lit (by decide)
  have ns : NB ks := nb_lit (by decide)
  have t1 := Lib.hid (show Nm.text kn = [97, 46, 66, 46, 99, 46] by decide +kernel)
  have t2 := Lib.hid (show Nm.text ks = [97, 46, 66, 46, 100, 46, 101, 46] by decide +kernel)
  have u1 := Lib.hid (show Nm.under kn [[98], [67]] = true by decide +kernel)
  have u2 := Lib.hid (show Nm.under kn km = false by decide +kernel)
  have l1 := Lib.hid (show Nm.len kn = 7 by decide +kernel)
  have q1 := Lib.hid (show Nm.cmp km kn = 1 by decide +kernel)
  have q2 := Lib.hid (show Nm.parent kn = [[66], [99]] by decide +kernel)
  have q3 := Lib.hid (show Nm.same kn (Nm.fold kn) = true by decide +kernel)
  have q4 := Lib.hid (show Nm.common kn [[113], [99]] = [[99]] by decide +kernel)
  have q5 := Lib.hid (show Nm.wild [[42]] = true by decide +kernel)
  have q6 := Lib.hid (show Nm.check kn = 0 by decide +kernel)
  go_wp2_with fail
  refine (nText_any _ kn _ HR1.out nk).mono ?_
  rintro e W6 ⟨rfl, b6⟩
  rw [t1.out]
  replace HR1 := Lib.hid (HR1.out.below b6)
  replace HR2 := Lib.hid (HR2.out.below b6)
  replace r4 := r4.below b6
  replace b6 := below5 b5 b6
  go_wp2_with fail
  refine (nText_any _ [] _ (Rd.nil _) (nb_lit (by decide))).mono ?_
  rintro e W7 ⟨rfl, b7⟩
  rw [Nm.text_nil]
  replace HR1 := Lib.hid (HR1.out.below b7)
  replace HR2 := Lib.hid (HR2.out.below b7)
  replace r4 := r4.below b7
  replace b7 := below5 b6 b7
  go_wp2_with fail
  refine (nUnder_any _ _ kn [[98], [67]] _ (HR1.out.alloc _) (rd_two [98] [67] W7) nk (nb_lit (by decide))).mono ?_
  rintro e W8 ⟨rfl, b8⟩
  rw [u1.out]
  replace HR1 := Lib.hid ((HR1.out.alloc _).below b8)
  replace HR2 := Lib.hid ((HR2.out.alloc _).below b8)
  replace r4 := (r4.alloc _).below b8
  replace b8 := below_lit b7 b8
  go_wp2_with fail
  refine (nUnder_any _ _ kn km _ HR1.out HR2.out nk nm).mono ?_
  rintro e W9 ⟨rfl, b9⟩
  rw [u2.out]
  replace HR1 := Lib.hid (HR1.out.below b9)
  replace HR2 := Lib.hid (HR2.out.below b9)
  replace r4 := r4.below b9
  replace b9 := below5 b8 b9
  go_wp2_with fail
  refine (nText_any _ ks _ r4 ns).mono ?_
  rintro e W10 ⟨rfl, b10⟩
  rw [t2.out]
  replace HR1 := Lib.hid (HR1.out.below b10)
  replace HR2 := Lib.hid (HR2.out.below b10)
  replace b10 := below5 b9 b10
  go_wp2_with fail
  refine (nLen_any _ kn _ HR1.out nk).mono ?_
  rintro e W11 ⟨rfl, b11⟩
  rw [l1.out]
  replace HR1 := Lib.hid (HR1.out.below b11)
  replace HR2 := Lib.hid (HR2.out.below b11)
  replace b11 := below5 b10 b11
  go_wp2_with fail
  refine (nCompare_any _ _ km kn _ HR2.out HR1.out nm nk).mono ?_
  rintro e W12 ⟨rfl, b12⟩
  rw [q1.out]
  replace HR1 := Lib.hid (HR1.out.below b12)
  replace b12 := below5 b11 b12
  go_wp2_with fail
  refine (nParent_any _ kn _ HR1.out nk).mono ?_
  rintro e W13 ⟨v13, rfl, r13, b13⟩
  rw [q2.out] at r13
  obtain ⟨o13, c13, rfl, _, _⟩ := r13.form
  replace HR1 := Lib.hid (HR1.out.below b13)
  replace b13 := below5 b12 b13
  go_wp2_with fail
  refine (nChild_any [122] _ kn _ HR1.out nk).mono ?_
  rintro e W14 ⟨v14, rfl, r14, b14⟩
  obtain ⟨o14, c14, rfl, _, _⟩ := r14.form
  replace HR1 := Lib.hid (HR1.out.below b14)
  replace b14 := below5 b13 b14
  go_wp2_with fail
  refine (nFold_any _ kn _ HR1.out nk).mono ?_
  rintro e W15 ⟨v15, rfl, r15, b15⟩
  replace HR1 := Lib.hid (HR1.out.below b15)
  replace b15 := below5 b14 b15
  go_wp2_with fail
  refine (nSame_any _ _ kn (Nm.fold kn) _ HR1.out r15 nk nk.fold).mono ?_
  rintro e W16 ⟨rfl, b16⟩
  rw [q3.out]
  replace HR1 := Lib.hid (HR1.out.below b16)
  replace b16 := below5 b15 b16
  go_wp2_with fail
  refine (nCommon_any _ _ kn [[113], [99]] _ (HR1.out.alloc _) (rd_two [113] [99] W16) nk (nb_lit (by decide))).mono ?_
  rintro e W17 ⟨v17, rfl, r17, b17⟩
  rw [q4.out] at r17
  obtain ⟨o17, c17, rfl, _, _⟩ := r17.form
  replace HR1 := Lib.hid ((HR1.out.alloc _).below b17)
  replace b17 := below_lit b16 b17
  go_wp2_with fail
  refine (nWild_any _ [[42]] _ (rd_one [42] W17) (nb_lit (by decide))).mono ?_
  rintro e W18 ⟨rfl, b18⟩
  rw [q5.out]
  replace HR1 := Lib.hid ((HR1.out.alloc _).below b18)
  replace b18 := below_lit b17 b18
  go_wp2_with fail
  refine (nCheck_any _ kn _ HR1.out nk).mono ?_
  rintro e W19 ⟨rfl, b19⟩
  rw [q6.out]
  replace b19 := below5 b18 b19
  go_wp2_with fail
  go_ret
  exact ⟨rfl, b19⟩
end Go.Proofs.Ytikibmeopndncaa
