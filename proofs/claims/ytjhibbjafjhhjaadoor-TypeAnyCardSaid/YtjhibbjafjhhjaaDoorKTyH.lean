/- Types of records, as the reference has them: ParseType. -/
import Derived.Test.YtjhibbjafjhhjaaDoorKTyG
namespace Go.Proofs.YtjhibbjafjhhjaaDoor
open Go.RowKit Go.Shelf
set_option maxRecDepth 100000
theorem Ty.dec_low {s : List UInt8} (hp : 0 < s.length) : (s.head? = some 48 /\ s ≠ [48]) ↔ (s[0].toNat = 48 /\ 1 < s.length) := by
 rcases s with _ | ⟨c, l⟩
 ·simp at hp
 ·simp only [List.head?_cons, Option.some.injEq, ne_eq, List.cons.injEq, not_and, List.getElem_cons_zero, List.length_cons]
  constructor
  ·rintro ⟨rfl, h⟩
   refine ⟨rfl, ?_⟩
   have := h rfl
   cases l with
   | nil => exact absurd rfl this
   | cons a b => simp
  ·rintro ⟨h, h1⟩
   refine ⟨UInt8.toNat_inj.1 h, fun _ e => ?_⟩
   subst e; simp at h1
theorem refNumber_any (s : List UInt8) (hs : s.length <= 100000) (w : World) :
  Calls Tryd.prog 38 #[S s, .int .i64 65535] w (Gives (.tuple #[.int .i64 ((Ty.dec s 65535).1 : Nat), .int .i64 (Ty.dec s 65535).2]) w) := by
 by_cases h0 : s = []
 ·subst h0
  refine (callsIn_wide (n := 0)).1 ?_
  refine callsIn_of_wp Tryd.func38 rfl trivial ?_ rfl
  simp only [Tryd.ntmps38, List.size_toArray, List.length_cons, List.length_nil, Nat.reduceAdd, Nat.reduceSub, Array.replicate_succ, Array.replicate_zero, List.push_toArray, List.append_toArray, List.nil_append, List.cons_append]
  gi_wp2_with fail
  all_goals first
   | (rename_i h1 h2; simp [undef] at h1; done)
   | (go_ret2
      exact ⟨rfl, Below.refl _ _⟩)
 ·have hp : 0 < s.length := List.length_pos_iff.2 h0
  by_cases h1 : s[0].toNat = 48 /\ 1 < s.length
  ·have hd : Ty.dec s 65535 = (0, 2) := by
    unfold Ty.dec; rw [if_pos (.inr (.inr ((Ty.dec_low hp).2 h1)))]
   rw [hd]
   have hsi : s.isEmpty = false := by cases s with | nil => simp at hp | cons _ _ => rfl
   obtain ⟨h2, h3⟩ := h1
   have hl : (1 : Int) < (s.length : Int) := by omega
   have hpz : (0 : Int) < (s.length : Int) := by omega
   obtain ⟨c, hc⟩ : ∃ c, s[0] = c := ⟨_, rfl⟩
   rw [hc] at h2
   have hcz : ((c.toNat : Int) == 48) = true := by simp [h2]
   clear hd h2 h0
   refine (callsIn_wide (n := 0)).1 ?_
   refine callsIn_of_wp Tryd.func38 rfl trivial ?_ rfl
   simp only [Tryd.ntmps38, List.size_toArray, List.length_cons, List.length_nil, Nat.reduceAdd, Nat.reduceSub, Array.replicate_succ, Array.replicate_zero, List.push_toArray, List.append_toArray, List.nil_append, List.cons_append]
   gi_wp2_with fail
   go_ret2
   exact ⟨rfl, Below.refl _ _⟩
  ·refine refNumber_go s hp hs _ _ w (fun a b => h1 ⟨a, b⟩) (fun ha => ?_) (fun ha => ?_)
   ·show Ty.dec s 65535 = _
    unfold Ty.dec
    rw [if_neg]
    rintro (h2 | h2 | h2)
    ·exact h0 h2
    ·rw [ha] at h2; cases h2
    ·exact h1 ((Ty.dec_low hp).1 h2)
   ·show Ty.dec s 65535 = _
    unfold Ty.dec
    rw [if_pos (.inr (.inl ha))]
theorem Ty.dig_lowd (c : UInt8) : Ty.dig (Lb.low c) = Ty.dig c := by
 have h : ∀ n : Fin 256, Ty.dig (Lb.low (UInt8.ofNat n.1)) = Ty.dig (UInt8.ofNat n.1) := by decide +kernel
 have := h ⟨c.toNat, c.toNat_lt⟩
 simpa using this
theorem Ty.all_fold (l : List UInt8) : (Lb.fold l).all Ty.dig = l.all Ty.dig := by
 unfold Lb.fold
 rw [List.all_map]
 congr 1
 funext c
 exact Ty.dig_lowd c
theorem Ty.dec_fold (l : List UInt8) (b : Nat) : Ty.dec (Lb.fold l) b = Ty.dec l b := by
 by_cases h : l.all Ty.dig = true
 ·rw [Ty.fold_dig h]
 ·have h1 : l.all Ty.dig = false := by simpa using h
  unfold Ty.dec
  rw [if_pos (.inr (.inl (by rw [Ty.all_fold]; exact h1))), if_pos (.inr (.inl h1))]
theorem Ty.fold_drop (s : List UInt8) (k : Nat) : (Lb.fold s).drop k = Lb.fold (s.drop k) := by unfold Lb.fold; rw [List.map_drop]
theorem Ty.rest_fold {s : List UInt8} (h4 : (Lb.fold s).take 4 = [116, 121, 112, 101]) :
  Ty.rest (Lb.fold s) = if (Ty.dec (s.drop 4) 65535).2 = 2 then (0, 6) else if (Ty.dec (s.drop 4) 65535).2 ≠ 0 \/ (Ty.dec (s.drop 4) 65535).1 = 0 then (0, 7) else (((Ty.dec (s.drop 4) 65535).1 : Int), 0) := by
 unfold Ty.rest Ty.cut
 rw [if_pos h4, Ty.fold_drop, Ty.dec_fold]
 simp
theorem Ty.rest_no {f : List UInt8} (h4 : f.take 4 ≠ [116, 121, 112, 101]) : Ty.rest f = (0, 6) := by
 unfold Ty.rest Ty.cut
 rw [if_neg h4]; simp
theorem Ty.rest_short {f : List UInt8} (h : f.length < 5) : Ty.rest f = (0, 6) := by
 unfold Ty.rest Ty.cut
 split
 ·have : f.drop 4 = [] := List.drop_eq_nil_of_le (by omega)
  simp [this, Ty.dec]
 ·simp
theorem Ty.name_all : ∀ p ∈ Ty.names, Ty.nameOf p.1 = some p.2 /\ p.2.length <= 1000 := by decide
set_option maxHeartbeats 8000000 in
theorem refParse_at {s : List UInt8} {a b : Int} (h : Ty.parse s = (a, b)) (hs : s.length <= 100000) (w : World) :
  Calls Tryd.prog 13 #[S s] w (Gives (.tuple #[.int .i64 a, .int .i64 b]) w) := by
 obtain ⟨f, hf⟩ : ∃ f, Lb.fold s = f := ⟨_, rfl⟩
 have hfl : Hid (f.length = s.length) := by show _ = _; rw [<- hf]; simp [Lb.fold]
 have HH : Hid ((match Ty.typeOf f with | some t => (t, 0) | none => Ty.rest f) = (a, b)) := by rw [<- hf]; exact h
 have HF := Lib.hid hf
 have fz : (f.length : Int) <= 100000 := by have := hfl.out; omega
 have lz : (s.length : Int) <= 100000 := by omega
 clear h hf
 refine (callsIn_wide (n := 0)).1 ?_
 refine callsIn_of_wp Tryd.func13 rfl trivial ?_ rfl
 simp only [Tryd.ntmps13, List.size_toArray, List.length_cons, List.length_nil, Nat.reduceAdd, Nat.reduceSub, Array.replicate_succ, Array.replicate_zero, List.push_toArray, List.append_toArray, List.nil_append, List.cons_append]
 gi_wp2_with fail
 refine (callsIn_wide.2 (refFold_any s w (by omega))).mono ?_
 rintro e w1 ⟨rfl, b1⟩
 rw [HF.out]
 gi_wp2_with fail
 refine (callsIn_wide.2 (refTypes_any w1)).mono ?_
 rintro e w2 ⟨rfl, hk, b2⟩
 obtain ⟨g, hg⟩ : ∃ g, w1.heap.size = g := ⟨_, rfl⟩
 rw [hg] at hk ⊢
 have HK := Lib.hid hk
 have HB2 := Lib.hid (below5 b1 b2)
 clear hk b1 b2 hg
 gi_wp2_with fail
 gi_loopw [6] (fun v6 W => ∃ k : Nat, k <= 9 /\ v6 = .int .i64 k /\ Hid ((Ty.names.find? fun p => Lb.fold p.2 == f) = (Ty.names.drop k).find? fun p => Lb.fold p.2 == f) /\ Below w2.heap.size w2 W) (fun v6 _ => 9 - (intOf v6).toNat)
 case atStart => exact ⟨0, Nat.zero_le _, rfl, rfl, Below.refl _ _⟩
 case round =>
  obtain ⟨k, hk, rfl, hfd, hb⟩ := hrel
  have HB := Lib.hid (below5 HB2.out hb)
  have HBW := Lib.hid hb
  have HFD := Lib.hid hfd.out
  by_cases hlt : k < 9
  case neg =>
   have hlz : ¬ ((k : Int) < 9) := by omega
   have hn : Ty.typeOf f = none := by unfold Ty.typeOf; rw [HFD.out, List.drop_eq_nil_of_le (by show 9 <= k; omega)]; rfl
   have HR : Hid (Ty.rest f = (a, b)) := by have := HH.out; rw [hn] at this; exact this
   clear hb hfd hn HFD HH
   by_cases h5 : f.length < 5
   case pos =>
    have h5z : (f.length : Int) < 5 := by omega
    have hr := HR.out
    rw [Ty.rest_short h5] at hr
    cases hr
    clear HR
    gi_wp2_with fail
    go_ret2
    exact ⟨rfl, HB.out⟩
   case neg =>
   have h5z : ¬ ((f.length : Int) < 5) := by omega
   have h4z : (4 : Int) <= (s.length : Int) := by have := hfl.out; omega
   have h4y : (4 : Int) <= (f.length : Int) := by omega
   by_cases h4 : f.take 4 = [116, 121, 112, 101]
   case neg =>
    have hr := HR.out
    rw [Ty.rest_no h4] at hr
    cases hr
    have h4b : (f.take 4 == [116, 121, 112, 101]) = false := by simpa using h4
    clear HR h4
    gi_wp2_with fail
    go_ret2
    exact ⟨rfl, HB.out⟩
   case pos =>
   have h4b : (f.take 4 == [116, 121, 112, 101]) = true := by simpa using h4
   have hr := HR.out
   rw [<- HF.out] at hr h4
   rw [Ty.rest_fold h4] at hr
   obtain ⟨n, e2, hd⟩ : ∃ n e2, Ty.dec (s.drop 4) 65535 = (n, e2) := ⟨_, _, rfl⟩
   have HN := Lib.hid (refNumber_any (s.drop 4) (by rw [List.length_drop]; omega) wr)
   rw [hd] at HN hr
   simp only [] at HN hr
   have hn5 : n <= 65535 := by have := dec_le (s.drop 4) 65535; rw [hd] at this; exact this
   have nz : (n : Int) <= 65535 := by omega
   clear HR h4 hd
   have HQ := Lib.hid hr
   clear hr
   gi_wp2_with fail
   refine (callsIn_wide.2 HN.out).mono ?_
   rintro e w3 ⟨rfl, b3⟩
   have HB3 := Lib.hid (below5 HB.out b3)
   clear b3 HN
   by_cases he2 : e2 = 2
   case pos =>
    subst he2
    have hr := HQ.out
    rw [if_pos rfl] at hr
    cases hr
    gi_wp2_with fail
    go_ret2
    exact ⟨rfl, HB3.out⟩
   case neg =>
   have he2b : (e2 == 2) = false := by simpa using he2
   by_cases he0 : e2 = 0
   case neg =>
    have he0b : (e2 == 0) = false := by simpa using he0
    have hr := HQ.out
    rw [if_neg he2, if_pos (.inl he0)] at hr
    cases hr
    gi_wp2_with fail
    go_ret2
    exact ⟨rfl, HB3.out⟩
   case pos =>
   subst he0
   by_cases hn0 : n = 0
   case pos =>
    subst hn0
    have hr := HQ.out
    rw [if_neg (by decide), if_pos (.inr rfl)] at hr
    cases hr
    gi_wp2_with fail
    go_ret2
    exact ⟨rfl, HB3.out⟩
   case neg =>
    have hn0z : ((n : Int) == 0) = false := by simp; omega
    have hr := HQ.out
    rw [if_neg (by decide), if_neg (by rintro (h | h) <;> contradiction)] at hr
    cases hr
    gi_wp2_with fail
    go_ret2
    exact ⟨rfl, HB3.out⟩
  case pos =>
  have hlz : (k : Int) < 9 := by omega
  have hkn : k < Ty.names.length := hlt
  obtain ⟨x, r, hx⟩ : ∃ x r, Ty.names[k] = (x, r) := ⟨_, _, rfl⟩
  have c1 : wr.cell? ⟨g, k, none⟩ = some (.int .i64 x) := by rw [(HK.out.below hb).cell k, Ty.keys_eq]; simp [hx, hkn]
  obtain ⟨hnm, hrl⟩ := Ty.name_all _ (List.getElem_mem hkn)
  rw [hx] at hnm hrl
  have HN : Hid (∀ w, Calls Tryd.prog 37 #[.int .i64 x] w (Gives (S r) w)) := fun w => by
   have h := refName_any x w; rw [hnm] at h; exact h
  obtain ⟨R, hR⟩ : ∃ R, Lb.fold r = R := ⟨_, rfl⟩
  have HR := Lib.hid hR
  have HX := Lib.hid hx
  clear hb hfd hR hnm hx
  gi_wp2_with fail
  refine (callsIn_wide.2 (HN.out _)).mono ?_
  rintro e w3 ⟨rfl, b3⟩
  gi_wp2_with fail
  refine (callsIn_wide.2 (refFold_any r w3 (by omega))).mono ?_
  rintro e w4 ⟨rfl, b4⟩
  rw [HR.out]
  have c2 : w4.cell? ⟨g, k, none⟩ = some (.int .i64 x) := by
   have hb := below5 b3 b4
   exact (hb.cell (cell_lt c1)).trans c1
  have HB4 := Lib.hid (below5 HB.out (below5 b3 b4))
  have HBW4 := Lib.hid (below5 HBW.out (below5 b3 b4))
  clear b3 b4 c1
  by_cases hrf : R = f
  case pos =>
   have hty : Ty.typeOf f = some x := by
    unfold Ty.typeOf; rw [HFD.out, List.drop_eq_getElem_cons hkn, HX.out, List.find?_cons]
    simp only []
    rw [HR.out, hrf]; simp
   have hr := HH.out
   rw [hty] at hr
   cases hr
   subst hrf
   clear HH hty HFD
   gi_wp2_with fail
   go_ret2
   exact ⟨rfl, HB4.out⟩
  case neg =>
   have hrb : (R == f) = false := by simpa using hrf
   have hra : ¬ ((⟨R.toArray⟩ : ByteArray) = ⟨f.toArray⟩) := by intro h; apply hrf; simpa using h
   have HRF := Lib.hid hrf
   clear hrf
   gi_wp2_with fail
   exact ⟨⟨k + 1, hlt, by go_num, by show _ = _; rw [HFD.out]; exact find_next hkn (by rw [HX.out]; simp only []; rw [HR.out]; simpa using HRF.out), HBW4.out⟩, by simp [intOf]; omega⟩
end Go.Proofs.YtjhibbjafjhhjaaDoor
