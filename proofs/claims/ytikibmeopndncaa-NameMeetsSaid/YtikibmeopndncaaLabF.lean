/- The reference's Octets, ParseLabel. -/
import Derived.Test.YtikibmeopndncaaLabE
namespace Go.Proofs.Ytikibmeopndncaa
open Go.RowKit Go.Shelf
set_option maxRecDepth 100000

def bareOf (dots : Bool) : List UInt8 := if dots then [] else [46]
/-- at the loop's head of Octets: what was read, where it goes on -/
def OctI (w : World) (s : List UInt8) (dots : Bool) (v i : Value) (wr : World) : Prop :=
  ∃ (out : List UInt8) (k : Nat), k ≤ s.length ∧ Lb.Ahead (bareOf dots) s out (s.drop k) ∧ v = S out ∧ i = .int .i64 k ∧ out.length ≤ k ∧ Below w.heap.size w wr
theorem OctI.mk {w : World} {s : List UInt8} {dots : Bool} {wr : World} (out : List UInt8) (k : Nat) {n : Int} {l : List UInt8} (hn : n = k) (hl : l = out) (h1 : k ≤ s.length) (h2 : Lb.Ahead (bareOf dots) s out (s.drop k)) (h3 : out.length ≤ k) (h4 : Below w.heap.size w wr) :
    OctI w s dots (S l) (.int .i64 n) wr := by subst hn; subst hl; exact ⟨l, k, h1, h2, rfl, rfl, h3, h4⟩
def OctP (w : World) (s : List UInt8) (dots : Bool) (e : Ending) (w' : World) : Prop := e = .returned (.tuple #[S (Lb.unesc (bareOf dots) s).1, .int .i64 (Lb.unesc (bareOf dots) s).2]) ∧ Below w.heap.size w w'
theorem OctP.mk {w w' : World} {s : List UInt8} {dots : Bool} (l : List UInt8) (z : Int) (h : Lb.unesc (bareOf dots) s = (l, z)) (hb : Below w.heap.size w w') : OctP w s dots (.returned (.tuple #[S l, .int .i64 z])) w' := by
  unfold OctP; rw [h]; exact ⟨rfl, hb⟩

theorem bne_u8 {a b : UInt8} {n : Int} (hn : n = b.toNat) (h : a ≠ b) : ((a.toNat : Int) == n) = false ∧ ((a.toNat : Int) != n) = true := by
  have : (a.toNat : Int) ≠ n := by rw [hn]; intro e; apply h; apply UInt8.toNat_inj.1; exact_mod_cast e
  exact ⟨by simpa using this, by simpa using this⟩
theorem beq_u8 {a b : UInt8} {n : Int} (hn : n = b.toNat) (h : a = b) : ((a.toNat : Int) == n) = true ∧ ((a.toNat : Int) != n) = false := by
  subst h; subst hn; simp

set_option maxRecDepth 100000 in
set_option maxHeartbeats 4000000 in
theorem refOctets_any (s : List UInt8) (dots : Bool) (w : World) (hs : s.length ≤ 1000000) :
    Calls Try.prog 93 #[S s, .bool dots] w (OctP w s dots) := by
  go_enter Try.func93, Try.ntmps93
  go_wp2
  go_loopw [6, 7] (fun v i wr => OctI w s dots v i wr) (fun _ i _ => s.length - (intOf i).toNat)
  case atStart => exact OctI.mk [] 0 rfl rfl (by omega) (Lb.Ahead.start _ _) (by simp) (Below.refl _ _)
  case round =>
    obtain ⟨out, k, hk, hA, rfl, rfl, hol, hb⟩ := hrel
    have HA := Lib.hid hA
    clear hA
    by_cases hlt : k < s.length
    · have HD := Lib.hid (List.drop_eq_getElem_cons hlt)
      have hc255 : ((s[k].toNat : Nat) : Int) ≤ 255 := by have := s[k].toNat_lt; omega
      by_cases h92 : s[k] = 92
      · obtain ⟨e1, e2⟩ := beq_u8 (n := 92) rfl h92
        obtain ⟨f1, f2⟩ := bne_u8 (n := 46) (b := 46) rfl (show s[k] ≠ 46 by rw [h92]; decide)
        have H92 := Lib.hid h92
        clear h92
        by_cases hl1 : k + 1 < s.length
        · have HD1 := Lib.hid (List.drop_eq_getElem_cons hl1)
          by_cases hd1 : Lb.isDig s[k + 1]
          · have g1 : decide (Lb.isDig s[k + 1]) = true := by simpa using hd1
            have HG1 := Lib.hid g1
            have HI1 := Lib.hid hd1
            obtain ⟨a1, a2⟩ : 48 ≤ (s[k + 1].toNat : Int) ∧ (s[k + 1].toNat : Int) ≤ 57 := by have := hd1.1; have := hd1.2; omega
            clear g1 hd1
            by_cases hl3 : k + 3 < s.length
            · have HD2 := Lib.hid (List.drop_eq_getElem_cons (show k + 1 + 1 < s.length by omega))
              have HD3 := Lib.hid (List.drop_eq_getElem_cons (show k + 1 + 1 + 1 < s.length by omega))
              obtain ⟨b2, hb2⟩ : ∃ b, decide (Lb.isDig s[k + 2]) = b := ⟨_, rfl⟩
              obtain ⟨b3, hb3⟩ : ∃ b, decide (Lb.isDig s[k + 3]) = b := ⟨_, rfl⟩
              have HG2 := Lib.hid hb2
              have HG3 := Lib.hid hb3
              clear hb2 hb3
              by_cases hall : b2 = true ∧ b3 = true
              · obtain ⟨rfl, rfl⟩ := hall
                have hd2 : Lb.isDig s[k + 2] := by have := HG2.out; simpa using this
                have hd3 : Lb.isDig s[k + 3] := by have := HG3.out; simpa using this
                have HN := Lib.hid (Lb.num3_le s[k + 1] s[k + 2] s[k + 3] HI1.out hd2 hd3)
                have HE := Lib.hid (Lb.escd_three (r := List.drop (k + 1 + 1 + 1 + 1) s) HI1.out hd2 hd3)
                have c1 := hd2.1
                have c2 := hd2.2
                have d1 := hd3.1
                have d2 := hd3.2
                clear hd2 hd3
                obtain ⟨c1', c2'⟩ : 48 ≤ (s[k + 2].toNat : Int) ∧ (s[k + 2].toNat : Int) ≤ 57 := by omega
                obtain ⟨d1', d2'⟩ : 48 ≤ (s[k + 3].toNat : Int) ∧ (s[k + 3].toNat : Int) ≤ 57 := by omega
                clear c1 c2 d1 d2
                have i1 : 0 ≤ (k : Int) + 1 ∧ (k : Int) + 1 < s.length := by omega
                have i2 : 0 ≤ (k : Int) + 2 ∧ (k : Int) + 2 < s.length := by omega
                have i3 : 0 ≤ (k : Int) + 3 ∧ (k : Int) + 3 < s.length := by omega
                go_wp2_with (go_at_call 103; ((with_reducible first | refine (refDigit_at s[k + 1] _ HG1.out _).mono ?_ | refine (refDigit_at s[k + 2] _ HG2.out _).mono ?_ | refine (refDigit_at s[k + 3] _ HG3.out _).mono ?_); rintro e w1 ⟨rfl, rfl⟩))
                go_quiet (fail)
                by_cases hv : 255 < ((s[k + 1].toNat : Int) - 48) * 100 + ((s[k + 2].toNat : Int) - 48) * 10 + ((s[k + 3].toNat : Int) - 48)
                · go_wp2
                  go_ret2
                  exact OctP.mk [] 7 (HA.out.err (by rw [HD.out, H92.out, HD1.out, HD2.out, HD3.out]; exact Lb.un_err' (x := 0) (n := 0) (by rw [HE.out, if_pos (by have := HN.out; omega)]) (by decide))) (below_drewN hb _)
                · obtain ⟨x, hx, ev⟩ : ∃ x : UInt8, Hid (x = UInt8.ofNat (Lb.num3 s[k + 1] s[k + 2] s[k + 3])) ∧ ((s[k + 1].toNat : Int) - 48) * 100 + ((s[k + 2].toNat : Int) - 48) * 10 + ((s[k + 3].toNat : Int) - 48) = x.toNat :=
                    ⟨_, Lib.hid rfl, by have := HN.out; simp; omega⟩
                  have hcv : (convert 84 9 (.slice (some ⟨wr.heap.size, 0, none⟩) 1 1)).run Try.prog ((wr.drewN nq).alloc (.cells #[.int .u8 x.toNat] 5)) = .ok (S [x]) ((wr.drewN nq).alloc (.cells #[.int .u8 x.toNat] 5)) := conv_lit (wr.drewN nq) [x] 1
                  have hx255 : (x.toNat : Int) ≤ 255 := by have := x.toNat_lt; omega
                  go_wp2
                  refine ⟨?_, by simp [intOf]; omega⟩
                  rw [append_S]
                  refine OctI.mk (out ++ [x]) (k + 4) rfl rfl (by omega) (HA.out.step ?_) (by simp; omega) ((below_drewN hb _).alloc (by have := hb.size; simpa using this) _)
                  rw [HD.out, H92.out, HD1.out, HD2.out, HD3.out, Lb.un_esc' (x := x) (n := 3) (by rw [HE.out, if_neg (by have := HN.out; omega), ← hx.out])]
                  rfl
              · have HE := Lib.hid (show Lb.escd (s.drop (k + 1)) = (0, 0, 2) by
                  rw [HD1.out]
                  refine Lb.escd_some HI1.out (fun b c t e h => hall ?_)
                  rw [HD2.out, HD3.out] at e
                  simp only [List.cons.injEq] at e
                  obtain ⟨rfl, rfl, _⟩ := e
                  exact ⟨by rw [← HG2.out]; simpa using h.1, by rw [← HG3.out]; simpa using h.2⟩)
                have hall' : b2 = false ∨ b2 = true ∧ b3 = false := by cases b2 <;> cases b3 <;> simp_all
                clear hall
                rcases hall' with rfl | ⟨rfl, rfl⟩
                all_goals
                  go_wp2_with (go_at_call 103; ((with_reducible first | refine (refDigit_at s[k + 1] _ HG1.out _).mono ?_ | refine (refDigit_at s[k + 2] _ HG2.out _).mono ?_ | refine (refDigit_at s[k + 3] _ HG3.out _).mono ?_); rintro e w1 ⟨rfl, rfl⟩))
                  go_ret2
                  exact OctP.mk [] 2 (HA.out.err (by rw [HD.out, H92.out]; exact Lb.un_err' HE.out (by decide))) hb
            · have HE := Lib.hid (show Lb.escd (s.drop (k + 1)) = (0, 0, 2) by
                rw [HD1.out]
                refine Lb.escd_some HI1.out (fun b c t e h => ?_)
                have := congrArg List.length e
                simp at this; omega)
              go_wp2_with (go_at_call 103; ((with_reducible refine (refDigit_at s[k + 1] _ HG1.out _).mono ?_); rintro e w1 ⟨rfl, rfl⟩))
              go_ret2
              exact OctP.mk [] 2 (HA.out.err (by rw [HD.out, H92.out]; exact Lb.un_err' HE.out (by decide))) hb
          · have g1 : decide (Lb.isDig s[k + 1]) = false := by simpa using hd1
            have HG1 := Lib.hid g1
            have HE := Lib.hid (show Lb.escd (s.drop (k + 1)) = (s[k + 1], 1, 0) by rw [HD1.out]; exact Lb.escd_not hd1)
            have H1 := Lib.hid (take_one s (k + 1) hl1)
            clear g1 hd1
            go_wp2_with (go_at_call 103; ((with_reducible refine (refDigit_at s[k + 1] _ HG1.out _).mono ?_); rintro e w1 ⟨rfl, rfl⟩))
            refine ⟨?_, by simp [intOf]; omega⟩
            rw [append_S, H1.out]
            refine OctI.mk (out ++ [s[k + 1]]) (k + 2) rfl rfl (by omega) (HA.out.step ?_) (by simp; omega) hb
            rw [HD.out, H92.out, Lb.un_esc' HE.out, List.drop_drop]
            rfl
        · have HE := Lib.hid (show Lb.escd (s.drop (k + 1)) = (0, 0, 2) by rw [List.drop_eq_nil_of_le (by omega)]; rfl)
          go_wp2
          go_ret2
          exact OctP.mk [] 2 (HA.out.err (by rw [HD.out, H92.out]; exact Lb.un_err' HE.out (by decide))) hb
      · obtain ⟨e1, e2⟩ := bne_u8 (n := 92) (b := 92) rfl h92
        have H92 := Lib.hid h92
        clear h92
        by_cases h46 : s[k] = 46
        · obtain ⟨f1, f2⟩ := beq_u8 (n := 46) rfl h46
          have H46 := Lib.hid h46
          clear h46
          cases dots with
          | false =>
            go_wp2
            go_ret2
            exact OctP.mk [] 2 (HA.out.err (by rw [HD.out]; exact Lb.un_bare _ _ _ H92.out (by rw [H46.out]; decide))) hb
          | true =>
            have H1 := Lib.hid (take_one s k hlt)
            go_wp2
            exact ⟨OctI.mk (out ++ [s[k]]) (k + 1) rfl (by rw [H1.out]) (by omega) (HA.out.step (by rw [HD.out, Lb.un_plain _ _ _ H92.out (by simp [bareOf])]; rfl)) (by simp; omega) hb, by simp [intOf]; omega⟩
        · obtain ⟨f1, f2⟩ := bne_u8 (n := 46) (b := 46) rfl h46
          have H46 := Lib.hid h46
          clear h46
          have H1 := Lib.hid (take_one s k hlt)
          go_wp2
          refine ⟨?_, by simp [intOf]; omega⟩
          rw [append_S, H1.out]
          refine OctI.mk (out ++ [s[k]]) (k + 1) rfl rfl (by omega) (HA.out.step ?_) (by simp; omega) hb
          rw [HD.out, Lb.un_plain _ _ _ H92.out (by unfold bareOf; split <;> simp [H46.out])]
          rfl
    · obtain rfl : s.length = k := by omega
      rw [List.drop_length] at HA
      go_wp2
      go_ret2
      exact OctP.mk out 0 HA.out.done hb

set_option maxHeartbeats 400000 in
theorem refParse_any (s : List UInt8) (w : World) (hs : s.length ≤ 1000000) :
    Calls Try.prog 65 #[S s] w fun e w' => e = .returned (.tuple #[S (Lb.parse s).1, .int .i64 (Lb.parse s).2]) ∧ Below w.heap.size w w' := by
  obtain ⟨⟨l, z⟩, hu⟩ : ∃ p, Lb.unesc [46] s = p := ⟨_, rfl⟩
  have hl := Lb.unesc_len [46] s
  rw [hu] at hl
  have HP : Hid (Lb.parse s = if z = 0 then (if Lb.check l.length = 0 then (l, 0) else ([], Lb.check l.length)) else ([], z)) := by unfold Hid; simp only [Lb.parse, hu]
  have HU : Hid (Lb.unesc (bareOf false) s = (l, z)) := hu
  clear hu
  simp only at hl
  obtain ⟨c, hc⟩ : ∃ c, Lb.check l.length = c := ⟨_, rfl⟩
  rw [hc] at HP
  have HC := Lib.hid hc
  clear hc
  by_cases hz : z = 0
  · subst hz
    by_cases hc0 : c = 0
    · subst hc0
      go_enter Try.func65, Try.ntmps65
      go_wp2_with (first
        | (go_at_call 93; refine (refOctets_any s false _ hs).mono ?_; rintro e w1 ⟨rfl, hb1⟩; rw [HU.out])
        | (go_at_call 52; refine (refCheck_any l _ (by omega)).mono ?_; rintro e w2 ⟨rfl, rfl⟩; rw [HC.out]))
      go_ret2
      exact ⟨by rw [HP.out]; rfl, hb1⟩
    · have hc1 : (c != 0) = true := by simpa using hc0
      have hc2 : (c == 0) = false := by simpa using hc0
      have H0 := Lib.hid hc0
      clear hc0
      go_enter Try.func65, Try.ntmps65
      go_wp2_with (first
        | (go_at_call 93; refine (refOctets_any s false _ hs).mono ?_; rintro e w1 ⟨rfl, hb1⟩; rw [HU.out])
        | (go_at_call 52; refine (refCheck_any l _ (by omega)).mono ?_; rintro e w2 ⟨rfl, rfl⟩; rw [HC.out]))
      go_ret2
      exact ⟨by rw [HP.out]; simp [H0.out], hb1⟩
  · have hc1 : (z != 0) = true := by simpa using hz
    have hc2 : (z == 0) = false := by simpa using hz
    have H0 := Lib.hid hz
    clear hz
    go_enter Try.func65, Try.ntmps65
    go_wp2_with (go_at_call 93; refine (refOctets_any s false _ hs).mono ?_; rintro e w1 ⟨rfl, hb1⟩; rw [HU.out])
    go_ret2
    exact ⟨by rw [HP.out, if_neg H0.out]; rfl, hb1⟩
end Go.Proofs.Ytikibmeopndncaa
