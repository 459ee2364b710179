/- Types of records: rtype.Decimal, rtype.Parse. -/
import Derived.Test.YtjhibbjafjhhjaaDoorKTyP
import Derived.Shelf.Strings.SlTrimAscii
namespace Go.Proofs.YtjhibbjafjhhjaaDoor
open Go.RowKit Go.Shelf
set_option maxRecDepth 100000
def EV (w : World) : Prop := ∃ ev, w.cell? ⟨2, 0, none⟩ = some ev /\ (ev = .nilIface \/ ∃ te pe, ev = .iface te pe)
theorem EV.below {w W : World} (h : EV w) (hb : Below w.heap.size w W) : EV W := by
 obtain ⟨ev, h1, h2⟩ := h
 exact ⟨ev, (hb.cell (cell_lt h1)).trans h1, h2⟩
theorem trim_any (s : List UInt8) (hs : s.length <= 1000000) (w : World) : Calls Tryd.prog 60 #[S s, S Ty.digs] w (Gives (S (Lib.trimS s Ty.digs)) w) := by
 refine (Any.strings_Trim_laid Tryd.lays160 (by kernel_rfl) ⟨s.toArray⟩ ⟨Ty.digs.toArray⟩ w (by simp [ByteArray.size]; omega) (by decide) ?_).mono ?_
 ·have : (Ty.digs.all fun b => decide (b.toNat < 128)) = true := by decide
  intro j b hb
  have h := List.all_eq_true.1 this b (List.mem_of_getElem? hb)
  simpa using h
 ·rintro e w' ⟨rfl, hb⟩
  exact ⟨rfl, hb⟩
theorem uint_ok {s : List UInt8} (hs : s.length <= 1000000) (hd : s.all Ty.dig = true) (hn : s ≠ []) (hv : Ty.val s <= 18446744073709551615) (w : World) :
  Calls Tryd.prog 61 #[S s, .int .i64 10, .int .i64 64] w (Gives (.tuple #[.int .u64 (Ty.val s : Nat), .nilIface]) w) := by
 refine (Tryd.strconv_ParseUint_10_at64_ok ⟨s.toArray⟩ (by simp [ByteArray.size]; omega) (Ty.val s) (Ty.parse_ok hd hn hv) w).mono ?_
 rintro e w' ⟨rfl, h⟩
 refine ⟨rfl, ?_⟩
 rcases h with rfl | rfl
 ·exact Below.refl _ _
 ·exact Lib.bytesWorld_below _ _ _
theorem uint_range {s : List UInt8} (hs : s.length <= 1000000) (hd : s.all Ty.dig = true) (hn : s ≠ []) (hv : 18446744073709551615 < Ty.val s) (w : World) (he : EV w) :
  Calls Tryd.prog 61 #[S s, .int .i64 10, .int .i64 64] w fun e w' => ∃ t a, e = .returned (.tuple #[.int .u64 18446744073709551615, .iface t (.pointer (some a))]) /\ Below w.heap.size w w' := by
 obtain ⟨ev, h1, h2⟩ := he
 refine (Tryd.strconv_ParseUint_10_at64_range ⟨s.toArray⟩ (by simp [ByteArray.size]; omega) (Ty.parse_range hd hn hv) ev w h1 h2).mono ?_
 rintro e w' ⟨N, rfl, _, _, hb⟩
 exact ⟨_, _, rfl, hb⟩
set_option maxHeartbeats 4000000 in
theorem dec_any (s : List UInt8) (bound : Nat) (hb : bound < 18446744073709551616) (hs : s.length <= 1000000) (w : World) (he : EV w) :
  Calls Tryd.prog 35 #[S s, .int .u64 (bound : Nat)] w (Gives (.tuple #[.int .u64 ((Ty.dec s bound).1 : Nat), .int .i64 (Ty.dec s bound).2]) w) := by
 rcases s with _ | ⟨c, l⟩
 ·have hd : Ty.dec [] bound = (0, 2) := by unfold Ty.dec; rw [if_pos (.inl rfl)]
  rw [hd]
  refine (callsIn_wide (n := 0)).1 ?_
  refine callsIn_of_wp Tryd.func35 rfl trivial ?_ rfl
  simp only [Tryd.ntmps35, List.size_toArray, List.length_cons, List.length_nil, Nat.reduceAdd, Nat.reduceSub, Array.replicate_succ, Array.replicate_zero, List.push_toArray, List.append_toArray, List.nil_append, List.cons_append]
  gi_wp2_with fail
  go_ret2
  exact ⟨rfl, Below.refl _ _⟩
 have HT := Lib.hid (trim_any (c :: l) hs)
 obtain ⟨T, hT⟩ : ∃ T, Lib.trimS (c :: l) Ty.digs = T := ⟨_, rfl⟩
 have hTd := Ty.trim_digs (c :: l)
 rw [hT] at HT hTd
 have HE := Lib.hid he
 obtain ⟨d1, d2⟩ : ∃ d, Ty.dec (c :: l) bound = d := ⟨_, rfl⟩
 have HD := Lib.hid d2
 rw [d2]
 obtain ⟨a1, a2⟩ := d1
 have hne : ¬ ((⟨(c :: l).toArray⟩ : ByteArray) = ⟨#[]⟩) := by simp
 clear he hT d2
 by_cases hd : (c :: l).all Ty.dig = true
 case neg =>
  have hTn : ¬ T = [] := fun h => hd (hTd.1 h)
  have hTa : ¬ ((⟨T.toArray⟩ : ByteArray) = ⟨#[]⟩) := by simpa using hTn
  have e : (a1, a2) = (0, 2) := by rw [<- HD.out]; unfold Ty.dec; rw [if_pos (.inr (.inl (by simpa using hd)))]
  cases e
  clear hd hTd HD
  refine (callsIn_wide (n := 0)).1 ?_
  refine callsIn_of_wp Tryd.func35 rfl trivial ?_ rfl
  simp only [Tryd.ntmps35, List.size_toArray, List.length_cons, List.length_nil, Nat.reduceAdd, Nat.reduceSub, Array.replicate_succ, Array.replicate_zero, List.push_toArray, List.append_toArray, List.nil_append, List.cons_append]
  gi_wp2_with (gi_at_call 60; refine (callsIn_wide.2 (HT.out w)).mono ?_; rintro e w1 ⟨rfl, b1⟩)
  go_ret2
  exact ⟨rfl, b1⟩
 case pos =>
 have hTe : T = [] := hTd.2 hd
 subst hTe
 clear hTd
 have HDG := Lib.hid hd
 clear hd
 by_cases h48 : c.toNat = 48
 ·have hc48 : c = 48 := UInt8.toNat_inj.1 (by rw [h48]; rfl)
  by_cases hl : l = []
  ·subst hl
   subst hc48
   have hv : Ty.val [48] = 0 := by decide
   have e : (a1, a2) = (0, 0) := by
    rw [<- HD.out]; unfold Ty.dec
    rw [if_neg (by decide), if_neg (by rw [hv]; omega), hv]
   cases e
   have HU := Lib.hid (uint_ok (s := [48]) hs HDG.out (by simp) (by rw [hv]; omega))
   rw [hv] at HU
   clear HDG hv
   refine (callsIn_wide (n := 0)).1 ?_
   refine callsIn_of_wp Tryd.func35 rfl trivial ?_ rfl
   simp only [Tryd.ntmps35, List.size_toArray, List.length_cons, List.length_nil, Nat.reduceAdd, Nat.reduceSub, Array.replicate_succ, Array.replicate_zero, List.push_toArray, List.append_toArray, List.nil_append, List.cons_append]
   gi_wp2_with (first | (gi_at_call 60; refine (callsIn_wide.2 (HT.out w)).mono ?_; rintro e w1 ⟨rfl, b1⟩) | (gi_at_call 61; refine (callsIn_wide.2 (HU.out w1)).mono ?_; rintro e w2 ⟨rfl, b2⟩))
   go_ret2
   exact ⟨rfl, below5 b1 b2⟩
  ·have hla : ¬ ((⟨(c :: l).toArray⟩ : ByteArray) = ⟨#[48]⟩) := by subst hc48; simpa using hl
   have e : (a1, a2) = (0, 2) := by
    rw [<- HD.out]; unfold Ty.dec
    rw [if_pos (.inr (.inr ⟨by rw [hc48]; rfl, by rw [hc48]; simpa using hl⟩))]
   cases e
   subst hc48
   have hle : l.isEmpty = false := by simpa using hl
   clear HDG hl hla
   refine (callsIn_wide (n := 0)).1 ?_
   refine callsIn_of_wp Tryd.func35 rfl trivial ?_ rfl
   simp only [Tryd.ntmps35, List.size_toArray, List.length_cons, List.length_nil, Nat.reduceAdd, Nat.reduceSub, Array.replicate_succ, Array.replicate_zero, List.push_toArray, List.append_toArray, List.nil_append, List.cons_append]
   gi_wp2_with (gi_at_call 60; refine (callsIn_wide.2 (HT.out w)).mono ?_; rintro e w1 ⟨rfl, b1⟩)
   go_ret2
   exact ⟨rfl, b1⟩
 ·have h48z : ¬ ((c.toNat : Int) = 48) := by omega
  have hdec : (a1, a2) = if bound < Ty.val (c :: l) then (0, 7) else (Ty.val (c :: l), 0) := by
   rw [<- HD.out]; unfold Ty.dec
   rw [if_neg]
   rintro (h | h | h)
   ·cases h
   ·rw [HDG.out] at h; cases h
   ·have := h.1; simp only [List.head?_cons, Option.some.injEq] at this; exact h48 (by rw [this]; rfl)
  obtain ⟨n, hn⟩ : ∃ n, Ty.val (c :: l) = n := ⟨_, rfl⟩
  rw [hn] at hdec
  have HN := Lib.hid hn
  clear hn
  by_cases h64 : n <= 18446744073709551615
  ·have HU := Lib.hid (uint_ok hs HDG.out (by simp) (by rw [HN.out]; exact h64))
   rw [HN.out] at HU
   by_cases hbn : bound < n
   ·rw [if_pos hbn] at hdec
    cases hdec
    have hbz : (bound : Int) < (n : Int) := by omega
    clear HDG h64 HD
    refine (callsIn_wide (n := 0)).1 ?_
    refine callsIn_of_wp Tryd.func35 rfl trivial ?_ rfl
    simp only [Tryd.ntmps35, List.size_toArray, List.length_cons, List.length_nil, Nat.reduceAdd, Nat.reduceSub, Array.replicate_succ, Array.replicate_zero, List.push_toArray, List.append_toArray, List.nil_append, List.cons_append]
    gi_wp2_with (first | (gi_at_call 60; refine (callsIn_wide.2 (HT.out w)).mono ?_; rintro e w1 ⟨rfl, b1⟩) | (gi_at_call 61; refine (callsIn_wide.2 (HU.out w1)).mono ?_; rintro e w2 ⟨rfl, b2⟩))
    go_ret2
    exact ⟨rfl, below5 b1 b2⟩
   ·rw [if_neg hbn] at hdec
    have hbz : ¬ ((bound : Int) < (n : Int)) := by omega
    cases hdec
    clear HDG h64 HD
    refine (callsIn_wide (n := 0)).1 ?_
    refine callsIn_of_wp Tryd.func35 rfl trivial ?_ rfl
    simp only [Tryd.ntmps35, List.size_toArray, List.length_cons, List.length_nil, Nat.reduceAdd, Nat.reduceSub, Array.replicate_succ, Array.replicate_zero, List.push_toArray, List.append_toArray, List.nil_append, List.cons_append]
    gi_wp2_with (first | (gi_at_call 60; refine (callsIn_wide.2 (HT.out w)).mono ?_; rintro e w1 ⟨rfl, b1⟩) | (gi_at_call 61; refine (callsIn_wide.2 (HU.out w1)).mono ?_; rintro e w2 ⟨rfl, b2⟩))
    go_ret2
    exact ⟨rfl, below5 b1 b2⟩
  ·rw [if_pos (by omega)] at hdec
   cases hdec
   have HU := Lib.hid (fun w (he : EV w) => uint_range hs HDG.out (by simp) (by rw [HN.out]; omega) w he)
   clear HDG h64 HD
   refine (callsIn_wide (n := 0)).1 ?_
   refine callsIn_of_wp Tryd.func35 rfl trivial ?_ rfl
   simp only [Tryd.ntmps35, List.size_toArray, List.length_cons, List.length_nil, Nat.reduceAdd, Nat.reduceSub, Array.replicate_succ, Array.replicate_zero, List.push_toArray, List.append_toArray, List.nil_append, List.cons_append]
   gi_wp2_with (gi_at_call 60; refine (callsIn_wide.2 (HT.out w)).mono ?_; rintro e w1 ⟨rfl, b1⟩; have HE1 := Lib.hid (HE.out.below b1); have HB1 := Lib.hid b1; clear b1)
   refine (callsIn_wide.2 (HU.out w1 HE1.out)).mono ?_
   rintro e w2 ⟨t, a, rfl, b2⟩
   gi_wp2_with fail
   go_ret2
   exact ⟨rfl, below5 HB1.out b2⟩
theorem cutp_any (s : List UInt8) (w : World) : Calls Tryd.prog 34 #[S s, S [116, 121, 112, 101]] w (Gives (.tuple #[S (Ty.cut s).1, .bool (Ty.cut s).2]) w) := by
 rw [Ty.cut_eq]
 refine (Tryd.strings_CutPrefix ⟨s.toArray⟩ ⟨#[116, 121, 112, 101]⟩ w).mono ?_
 rintro e w' ⟨rfl, rfl⟩
 exact ⟨rfl, Below.refl _ _⟩
theorem cut_len (s : List UInt8) : (Ty.cut s).1.length <= s.length := by
 unfold Ty.cut; split <;> simp
theorem dec_le (s : List UInt8) (b : Nat) : (Ty.dec s b).1 <= b := by
 unfold Ty.dec; split
 ·omega
 ·split <;> simp; omega
set_option maxHeartbeats 4000000 in
theorem tparse_any (s : List UInt8) (hs : s.length <= 100000) (w : World) (he : EV w) :
  Calls Tryd.prog 12 #[S s] w (Gives (.tuple #[.int .i64 (Ty.parse s).1, .int .i64 (Ty.parse s).2]) w) := by
 obtain ⟨f, hf⟩ : ∃ f, Lb.fold s = f := ⟨_, rfl⟩
 have hfl : f.length <= 100000 := by rw [<- hf]; simpa [Lb.fold] using hs
 have HFo := Lib.hid (fold_any s w (by omega))
 rw [hf] at HFo
 have HE := Lib.hid he
 have HF := Lib.hid hf
 have hp : Ty.parse s = match Ty.typeOf f with | some t => (t, 0) | none => Ty.rest f := by rw [<- hf]; rfl
 obtain ⟨r, hr⟩ : ∃ r, Ty.parse s = r := ⟨_, rfl⟩
 rw [hr]
 have HP := Lib.hid (hr.symm.trans hp)
 obtain ⟨r1, r2⟩ := r
 clear hp he hf hr
 obtain ⟨a1, b1⟩ : ∃ x, Ty.cut f = x := ⟨_, rfl⟩
 have HCu := Lib.hid (cutp_any f)
 have hcl := cut_len f
 have hre : Ty.rest f = if (Ty.cut f).2 = false \/ (Ty.dec (Ty.cut f).1 65535).2 = 2 then (0, 6) else if (Ty.dec (Ty.cut f).1 65535).2 ≠ 0 \/ (Ty.dec (Ty.cut f).1 65535).1 = 0 then (0, 7) else (((Ty.dec (Ty.cut f).1 65535).1 : Int), 0) := rfl
 rw [b1] at HCu hcl hre
 clear b1
 obtain ⟨d, ok⟩ := a1
 simp only [] at HCu hcl hre
 have HDe := Lib.hid (fun w he => dec_any d 65535 (by omega) (by omega) w he)
 have hdl := dec_le d 65535
 obtain ⟨nd, hnd⟩ : ∃ x, Ty.dec d 65535 = x := ⟨_, rfl⟩
 rw [hnd] at HDe hre hdl
 obtain ⟨n, de⟩ := nd
 simp only [] at HDe hre hdl
 clear hnd hcl
 have HTy := Lib.hid types_any
 have HFi := Lib.hid (fun v w hv => findSI_any v Ty.types f w hv (by decide))
 have HRe := Lib.hid hre
 clear hre
 refine (callsIn_wide (n := 0)).1 ?_
 refine callsIn_of_wp Tryd.func12 rfl trivial ?_ rfl
 simp only [Tryd.ntmps12, List.size_toArray, List.length_cons, List.length_nil, Nat.reduceAdd, Nat.reduceSub, Array.replicate_succ, Array.replicate_zero, List.push_toArray, List.append_toArray, List.nil_append, List.cons_append]
 gi_wp2_with fail
 refine (callsIn_wide.2 HFo.out).mono ?_
 rintro e w1 ⟨rfl, b1⟩
 have HE1 := Lib.hid (HE.out.below b1)
 have HB1 := Lib.hid b1
 clear HFo b1
 gi_wp2_with fail
 refine (callsIn_wide.2 (HTy.out w1)).mono ?_
 rintro e w2 ⟨v, rfl, hg, b2⟩
 have HE2 := Lib.hid (HE1.out.below b2)
 have HB2 := Lib.hid (below5 HB1.out b2)
 have HG := Lib.hid (HFi.out v w2 hg)
 obtain ⟨o, cap, rfl, _, _⟩ := hg.form
 clear HTy HFi b2 hg
 gi_wp2_with fail
 refine (callsIn_wide.2 HG.out).mono ?_
 rintro e w3 ⟨rfl, b3⟩
 have HE3 := Lib.hid (HE2.out.below b3)
 have HB3 := Lib.hid (below5 HB2.out b3)
 clear HG b3
 rcases hto : Ty.typeOf f with _ | t
 ·have hsm := Ty.typeOf_none hto
  rw [hsm]
  have hpr := HP.out
  rw [hto] at hpr
  simp only [] at hpr
  rw [HRe.out] at hpr
  have HPR := Lib.hid hpr
  clear hto hsm hpr HP HRe
  gi_wp2_with (first | (gi_at_call 34; refine (callsIn_wide.2 (HCu.out w3)).mono ?_; rintro e w4 ⟨rfl, b4⟩; have HE4 := Lib.hid (HE3.out.below b4); have HB4 := Lib.hid (below5 HB3.out b4); clear b4))
  refine (callsIn_wide.2 (HDe.out w4 HE4.out)).mono ?_
  rintro e w5 ⟨rfl, b5⟩
  have HB5 := Lib.hid (below5 HB4.out b5)
  clear HE HF HCu HDe HB1 HE1 HE2 HB2 HE3 HB3 HE4 HB4 b5
  have hpr := HPR.out
  clear HPR
  cases ok with
  | false =>
   rw [if_pos (.inl rfl)] at hpr; cases hpr
   gi_wp2_with fail
   go_ret2
   exact ⟨rfl, HB5.out⟩
  | true =>
   by_cases h2 : de = 2
   ·rw [if_pos (.inr h2)] at hpr; cases hpr
    subst h2
    gi_wp2_with fail
    go_ret2
    exact ⟨rfl, HB5.out⟩
   ·rw [if_neg (by simp [h2])] at hpr
    by_cases h0 : de = 0
    ·subst h0
     by_cases hn : n = 0
     ·subst hn
      rw [if_pos (.inr rfl)] at hpr; cases hpr
      gi_wp2_with fail
      go_ret2
      exact ⟨rfl, HB5.out⟩
     ·rw [if_neg (by simp [hn])] at hpr; cases hpr
      have hnz : ¬ ((n : Int) = 0) := by omega
      have hnu : IntKind.i64.wrap (n : Int) = (n : Int) := IntWalk.i64_in _ (by omega)
      gi_wp2_with fail
      go_ret2
      exact ⟨rfl, HB5.out⟩
    ·rw [if_pos (.inl h0)] at hpr; cases hpr
     gi_wp2_with fail
     go_ret2
     exact ⟨rfl, HB5.out⟩
 ·obtain ⟨h1, h2⟩ := Ty.typeOf_some hto
  rw [h1, h2]
  have hpr := HP.out
  rw [hto] at hpr
  simp only [] at hpr
  cases hpr
  clear h1 h2 hto HP
  gi_wp2_with fail
  go_ret2
  exact ⟨rfl, HB3.out⟩
end Go.Proofs.YtjhibbjafjhhjaaDoor
