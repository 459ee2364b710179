/- What is wrong with a set: the kinds, at any type. -/
import Derived.Test.YtneghhbclefmoaaGreatKCkB
import Derived.Sort.CutIn
namespace Go.Proofs.YtneghhbclefmoaaGreat
open Go.RowKit Go.Shelf Go.Sort
set_option maxRecDepth 100000
set_option maxHeartbeats 8000000 in
theorem ckOf_any {w w0 : World} (zo vr : Value) (l : List (El w)) (o own : List (List UInt8)) (po : Option Addr) (no qo : Nat) (t : Int) (tt : Nat) (od : Option Addr) (n cd : Nat) (hb0 : Below w.heap.size w w0) (hv : RecsRd vr (l.map (·.1)) w0) (na : l.length <= 1000) (ho : Rd zo o w0) (nbo : NB o) (hw : Rd (.slice po no qo) own w0) (nbw : NB own) (hn : n <= 1000) :
  Calls Tryz.prog 87 #[.agg #[zo, vr], .agg #[.slice po no qo, .int .i64 t, .int .u32 (tt : Int), .slice od n cd]] w0 (OfKR (Ck.kinds o (plE l) own t n) w0) := by
 obtain ⟨oo, co, rfl, _, _⟩ := ho.form
 obtain ⟨ov, cv, rfl⟩ : ∃ o cap, vr = .slice o l.length cap := by obtain ⟨_, o, cap, h, _⟩ := hv; exact ⟨o, cap, by rw [h, List.length_map]⟩
 obtain ⟨W2, hW2⟩ : ∃ W2, (w0.alloc (.cells #[.slice oo o.length co, .slice ov l.length cv] 29)).alloc (.cells #[.slice po no qo, .int .i64 t, .int .u32 (tt : Int), .slice od n cd] 116) = W2 := ⟨_, rfl⟩
 have hb2 : Below w0.heap.size w0 W2 := by subst hW2; exact ((Below.refl _ _).alloc (Nat.le_refl _) _).alloc (by simp) _
 have hk0 : Blk w0.heap.size #[.slice oo o.length co, .slice ov l.length cv] 29 W2 := by subst hW2; exact (Blk.new w0 _ _).alloc _
 have hk1 : Blk (w0.heap.size + 1) #[.slice po no qo, .int .i64 t, .int .u32 (tt : Int), .slice od n cd] 116 W2 := by
  subst hW2
  have := Blk.new (w0.alloc (.cells #[.slice oo o.length co, .slice ov l.length cv] 29)) #[.slice po no qo, .int .i64 t, .int .u32 (tt : Int), .slice od n cd] 116
  rwa [World.size_alloc] at this
 have hs2 : W2.heap.size = w0.heap.size + 2 := by subst hW2; simp
 obtain ⟨W3, hW3⟩ : ∃ W3, W2.alloc (.cells #[.slice none 0 0] 55) = W3 := ⟨_, rfl⟩
 have hO : OutM (w0.heap.size + 2) W2 [] W3 := by
  subst hW3
  have hbx := Box.new W2 55 (.slice none 0 0)
  rw [hs2] at hbx
  exact ⟨⟨none, 0, hbx, Row.nil _ _ _ _⟩, (Below.refl _ _).alloc (by omega) _⟩
 have HO := Lib.hid hO
 have HCS : Hid (∀ W', Below (w0.heap.size + 2) W2 W' -> Cs [(⟨w0.heap.size, 0, none⟩, .slice oo o.length co), (⟨w0.heap.size, 1, none⟩, .slice ov l.length cv), (⟨w0.heap.size + 1, 0, none⟩, .slice po no qo), (⟨w0.heap.size + 1, 1, none⟩, .int .i64 t), (⟨w0.heap.size + 1, 2, none⟩, .int .u32 (tt : Int)), (⟨w0.heap.size + 1, 3, none⟩, .slice od n cd)] W') := fun W' hW => by
  rw [<- hs2] at hW
  exact ⟨(hk0.below hW).cell 0, (hk0.below hW).cell 1, (hk1.below hW).cell 0, (hk1.below hW).cell 1, (hk1.below hW).cell 2, (hk1.below hW).cell 3, trivial⟩
 have HB2 : Hid (∀ W', Below (w0.heap.size + 2) W2 W' -> Below w0.heap.size w0 W') := fun W' hW => by rw [<- hs2] at hW; exact below5 hb2 hW
 obtain ⟨wz, hwz⟩ : ∃ z, Zn.wher o (plE l) own = z := ⟨_, rfl⟩
 have hw4 := Zn.wher_four o (plE l) own
 rw [hwz] at hw4
 have HWH : Hid (∀ W', Below (w0.heap.size + 2) W2 W' -> Calls Tryz.prog 21 #[.agg #[.slice oo o.length co, .slice ov l.length cv], .slice po no qo] W' (Gives (.int .i64 wz) W')) := fun W' hW => by
  have h := zWhere_any _ _ _ l o own (below5 hb0 (HB2.out W' hW)) (hv.kept (HB2.out W' hW)) na (ho.below (HB2.out W' hW)) nbo (hw.below (HB2.out W' hW)) nbw
  rw [hwz] at h; exact h
 obtain ⟨sm, hsm⟩ : ∃ b, Nm.same own o = b := ⟨_, rfl⟩
 have HSM : Hid (∀ W', Below (w0.heap.size + 2) W2 W' -> Calls Tryz.prog 61 #[.slice po no qo, .slice oo o.length co] W' (Gives (.bool sm) W')) := fun W' hW => by
  have h := nSame_any _ _ own o W' (hw.below (HB2.out W' hW)) (ho.below (HB2.out W' hW)) nbw nbo
  rw [hsm] at h; exact h
 obtain ⟨ts, hts⟩ : ∃ z, Rs.types (plE l) own = z := ⟨_, rfl⟩
 have HTY : Hid (∀ W', Below (w0.heap.size + 2) W2 W' -> Calls Tryz.prog 129 #[.slice ov l.length cv, .slice po no qo] W' fun e w' => ∃ v, e = .returned v /\ Sl v (ts.map I64) w' /\ Below W'.heap.size W' w') := fun W' hW => by
  have h := types_any _ _ l own (below5 hb0 (HB2.out W' hW)) (hv.kept (HB2.out W' hW)) na (hw.below (HB2.out W' hW)) nbw
  rw [hts] at h; exact h
 obtain ⟨cb, hcb⟩ : ∃ b, Ck.cov o (plE l) own = b := ⟨_, rfl⟩
 have HCV : Hid (o.length <= own.length -> ∀ W', Below (w0.heap.size + 2) W2 W' -> Calls Tryz.prog 131 #[.agg #[.slice oo o.length co, .slice ov l.length cv], .slice po no qo] W' (Gives (.bool cb) W')) := fun hle W' hW => by
  have h := ckCovered_any _ _ _ l o own (below5 hb0 (HB2.out W' hW)) (hv.kept (HB2.out W' hW)) na (ho.below (HB2.out W' hW)) nbo (hw.below (HB2.out W' hW)) nbw hle
  rw [hcb] at h; exact h
 obtain ⟨wi, hwi⟩ : ∃ b, Ck.wild own = b := ⟨_, rfl⟩
 have HWI : Hid (∀ W', Below (w0.heap.size + 2) W2 W' -> Calls Tryz.prog 132 #[.slice po no qo] W' (Gives (.bool wi) W')) := fun W' hW => by
  have h := nWild_any _ own W' (hw.below (HB2.out W' hW)) nbw
  rw [show Nm.wild own = wi from hwi] at h; exact h
 obtain ⟨hd, hhd⟩ : ∃ b, Ck.hidden t wz = b := ⟨_, rfl⟩
 have HHD : Hid (∀ W', Calls Tryz.prog 130 #[.agg #[.slice po no qo, .int .i64 t, .int .u32 (tt : Int), .slice od n cd], .int .i64 wz] W' (Gives (.bool hd) W')) := fun W' => by
  have h := ckHidden_any po no qo t tt od n cd wz W'
  rw [hhd] at h; exact h
 obtain ⟨t6, ht6⟩ : ∃ b, (t == 6) = b := ⟨_, rfl⟩
 obtain ⟨t5, ht5⟩ : ∃ b, (t == 5) = b := ⟨_, rfl⟩
 obtain ⟨t39, ht39⟩ : ∃ b, (t == 39) = b := ⟨_, rfl⟩
 obtain ⟨t2, ht2⟩ : ∃ b, (t == 2) = b := ⟨_, rfl⟩
 obtain ⟨z0, hz0⟩ : ∃ b, (wz == 0) = b := ⟨_, rfl⟩
 obtain ⟨z1, hz1⟩ : ∃ b, (wz == 1) = b := ⟨_, rfl⟩
 obtain ⟨nt, hnt⟩ : ∃ n, ts.length = n := ⟨_, rfl⟩
 obtain ⟨k4, hk4⟩ : ∃ b, (z0 || (t6 && !sm)) = b := ⟨_, rfl⟩
 obtain ⟨k5, hk5⟩ : ∃ b, (t5 && decide (1 < nt)) = b := ⟨_, rfl⟩
 obtain ⟨k6, hk6⟩ : ∃ b, ((t5 || t39) && decide (1 < n)) = b := ⟨_, rfl⟩
 obtain ⟨k8, hk8⟩ : ∃ b, (z1 && cb) = b := ⟨_, rfl⟩
 obtain ⟨k9, hk9⟩ : ∃ b, (t2 && wi) = b := ⟨_, rfl⟩
 have HKI : Hid (Ck.kinds o (plE l) own t n = Ck.addK (Ck.addK (Ck.addK (Ck.addK (Ck.addK (Ck.addK [] 4 k4) 5 k5) 6 k6) 7 hd) 8 k8) 9 k9) := by
  show _ = _
  unfold Ck.kinds
  rw [hwz, hsm, hts, hcb, hwi, hhd, hz0, hz1, ht6, ht5, ht39, ht2, hnt, hk4, hk5, hk6, hk8, hk9]
 have HTL : Hid (nt <= 1000) := by show _ <= _; rw [<- hnt, <- hts]; exact Nat.le_trans (types_len' (plE l) own) (by rw [plE_len]; exact na)
 have HUN : Hid (z1 = true -> o.length <= own.length) := fun h => by
  rw [<- hz1, beq_iff_eq] at h
  rcases hw4 with e | ⟨_, e⟩ | e | e
  ·omega
  ·exact Nm.under_le' e
  ·omega
  ·omega
 have nz : (n : Int) <= 1000 := by omega
 have HBT6 := Lib.hid ht6
 have HBT5 := Lib.hid ht5
 have HBT39 := Lib.hid ht39
 have HBT2 := Lib.hid ht2
 have HBZ0 := Lib.hid hz0
 have HBZ1 := Lib.hid hz1
 have HNT := Lib.hid hnt
 have HK4 := Lib.hid hk4
 have HK5 := Lib.hid hk5
 have HK6 := Lib.hid hk6
 have HK8 := Lib.hid hk8
 have HK9 := Lib.hid hk9
 clear hv ho hw nbo nbw hb0 hb2 hk0 hk1 hO hwz hsm hts hcb hwi hhd hw4 na ht6 ht5 ht39 ht2 hz0 hz1 hnt hk4 hk5 hk6 hk8 hk9
 have e12 : w0.heap.size + 1 + 1 = w0.heap.size + 2 := rfl
 obtain ⟨y0, y1, s0, s1, s2, s3, _⟩ := HCS.out W3 HO.out.below
 refine (callsIn_wide (n := 0)).1 ?_
 refine callsIn_of_wp Tryz.func87 rfl trivial ?_ rfl
 simp only [Tryz.ntmps87, List.size_toArray, List.length_cons, List.length_nil, Nat.reduceAdd, Nat.reduceSub, Array.replicate_succ, Array.replicate_zero, List.push_toArray, List.append_toArray, List.nil_append, List.cons_append]
 gi_wp2_with fail
 refine (callsIn_wide.2 (HWH.out W3 HO.out.below)).mono ?_
 rintro e9 Wb ⟨rfl, b9⟩
 replace HO := Lib.hid (HO.out.on b9)
 clear b9 y0 y1 s0 s1 s2 s3
 obtain ⟨y0, y1, s0, s1, s2, s3, _⟩ := HCS.out Wb HO.out.below
 clear hW2 hW3 hs2 e12
 gi_upto_region 4 with fail
 gi_cut [6] from 86 (fun v6 W => v6 = .int .i64 wz /\ OutM (w0.heap.size + 2) W2 (Ck.addK ([] : List Int) 4 k4) W)
 case first =>
  have e0 := HBZ0.out
  have e6 := HBT6.out
  clear HBZ0 HBT6
  cases z0 with
  | true =>
   gi_wp2_with fail
   all_goals try (first | (rename_i h _; simp [undef] at h; done) | (rename_i h _ _ _; simp [undef] at h; done) | (rename_i h _ _ _ _; simp [undef] at h; done) | (rename_i h _ _; simp [undef] at h; done))
   refine (callsIn_wide.2 (ofCb_any (w0.heap.size + 2) W2 ([] : List Int) 4 true _ HO.out (by simp; try (repeat' split) <;> simp))).mono ?_
   rintro e9 Wz ⟨rfl, hO⟩
   have HOX := Lib.hid hO
   clear hO
   gi_wp2_with fail
   gi_meet
   case rel =>
    refine ⟨rfl, ?_⟩
    rw [<- HK4.out]
    exact HOX.out
  | false =>
   cases t6 with
   | false =>
    gi_wp2_with fail
    all_goals try (first | (rename_i h _; simp [undef] at h; done) | (rename_i h _ _ _; simp [undef] at h; done) | (rename_i h _ _ _ _; simp [undef] at h; done) | (rename_i h _ _; simp [undef] at h; done))
    refine (callsIn_wide.2 (ofCb_any (w0.heap.size + 2) W2 ([] : List Int) 4 false _ HO.out (by simp; try (repeat' split) <;> simp))).mono ?_
    rintro e9 Wz ⟨rfl, hO⟩
    have HOX := Lib.hid hO
    clear hO
    gi_wp2_with fail
    gi_meet
    case rel =>
     refine ⟨rfl, ?_⟩
     rw [<- HK4.out]
     exact HOX.out
   | true =>
    gi_wp2_with fail
    all_goals try (first | (rename_i h _; simp [undef] at h; done) | (rename_i h _ _ _; simp [undef] at h; done) | (rename_i h _ _ _ _; simp [undef] at h; done) | (rename_i h _ _; simp [undef] at h; done))
    refine (callsIn_wide.2 (HSM.out Wb HO.out.below)).mono ?_
    rintro e9 Wy ⟨rfl, b9⟩
    have HOC := Lib.hid (HO.out.on b9)
    clear b9
    cases sm with
    | true =>
     gi_wp2_with fail
     all_goals try (first | (rename_i h _; simp [undef] at h; done) | (rename_i h _ _ _; simp [undef] at h; done) | (rename_i h _ _ _ _; simp [undef] at h; done) | (rename_i h _ _; simp [undef] at h; done))
     refine (callsIn_wide.2 (ofCb_any (w0.heap.size + 2) W2 ([] : List Int) 4 false _ HOC.out (by simp; try (repeat' split) <;> simp))).mono ?_
     rintro e9 Wz ⟨rfl, hO⟩
     have HOX := Lib.hid hO
     clear hO
     gi_wp2_with fail
     gi_meet
     case rel =>
      refine ⟨rfl, ?_⟩
      rw [<- HK4.out]
      exact HOX.out
    | false =>
     gi_wp2_with fail
     all_goals try (first | (rename_i h _; simp [undef] at h; done) | (rename_i h _ _ _; simp [undef] at h; done) | (rename_i h _ _ _ _; simp [undef] at h; done) | (rename_i h _ _; simp [undef] at h; done))
     refine (callsIn_wide.2 (ofCb_any (w0.heap.size + 2) W2 ([] : List Int) 4 true _ HOC.out (by simp; try (repeat' split) <;> simp))).mono ?_
     rintro e9 Wz ⟨rfl, hO⟩
     have HOX := Lib.hid hO
     clear hO
     gi_wp2_with fail
     gi_meet
     case rel =>
      refine ⟨rfl, ?_⟩
      rw [<- HK4.out]
      exact HOX.out
 case rest =>
 obtain ⟨rfl, hO⟩ := hcut
 obtain ⟨Wc, rfl⟩ : ∃ W, W = wc := ⟨_, rfl⟩
 replace HO := Lib.hid hO
 clear hO y0 y1 s0 s1 s2 s3
 obtain ⟨y0, y1, s0, s1, s2, s3, _⟩ := HCS.out Wc HO.out.below
 gi_upto_region 5 with fail
 gi_cut [6] from 86 (fun v6 W => v6 = .int .i64 wz /\ OutM (w0.heap.size + 2) W2 (Ck.addK (Ck.addK ([] : List Int) 4 k4) 5 k5) W)
 case first =>
  have e5 := HBT5.out
  clear HBT5
  cases t5 with
  | false =>
   gi_wp2_with fail
   all_goals try (first | (rename_i h _; simp [undef] at h; done) | (rename_i h _ _ _; simp [undef] at h; done) | (rename_i h _ _ _ _; simp [undef] at h; done) | (rename_i h _ _; simp [undef] at h; done))
   refine (callsIn_wide.2 (ofCb_any (w0.heap.size + 2) W2 (Ck.addK ([] : List Int) 4 k4) 5 false _ HO.out (by simp [Ck.addK]; try (repeat' split) <;> simp))).mono ?_
   rintro e9 Wz ⟨rfl, hO⟩
   have HOX := Lib.hid hO
   clear hO
   gi_wp2_with fail
   gi_meet
   case rel =>
    refine ⟨rfl, ?_⟩
    rw [<- HK5.out]
    exact HOX.out
  | true =>
   gi_wp2_with fail
   all_goals try (first | (rename_i h _; simp [undef] at h; done) | (rename_i h _ _ _; simp [undef] at h; done) | (rename_i h _ _ _ _; simp [undef] at h; done) | (rename_i h _ _; simp [undef] at h; done))
   refine (callsIn_wide.2 (HTY.out Wc HO.out.below)).mono ?_
   rintro e9 Wy ⟨vt, rfl, rt, b9⟩
   obtain ⟨ot, ct, rfl, _, _⟩ := rt.form
   rw [List.length_map, HNT.out]
   clear rt
   have htz : (nt : Int) <= 1000 := by have := HTL.out; omega
   have HOC := Lib.hid (HO.out.on b9)
   clear b9
   by_cases hl1 : 1 < nt
   ·have hlz1 : ((1 : Int) < (nt : Int)) := by omega
    have hld : decide (1 < nt) = true := decide_eq_true hl1
    have hldz : decide ((1 : Int) < (nt : Int)) = true := decide_eq_true hlz1
    have HLD := Lib.hid hld
    gi_wp2_with fail
    all_goals try (first | (rename_i h _; simp [undef] at h; done) | (rename_i h _ _ _; simp at h; done) | (rename_i h _ _ _ _; simp [undef] at h; done) | (rename_i h _ _; simp [undef] at h; done))
    refine (callsIn_wide.2 (ofCb_any (w0.heap.size + 2) W2 (Ck.addK ([] : List Int) 4 k4) 5 true _ HOC.out (by simp [Ck.addK]; try (repeat' split) <;> simp))).mono ?_
    rintro e9 Wz ⟨rfl, hO⟩
    have HOX := Lib.hid hO
    clear hO
    gi_wp2_with fail
    gi_meet
    case rel =>
     refine ⟨rfl, ?_⟩
     rw [<- HK5.out, HLD.out]
     exact HOX.out
   ·have hlz1 : ¬ ((1 : Int) < (nt : Int)) := by omega
    have hld : decide (1 < nt) = false := decide_eq_false hl1
    have hldz : decide ((1 : Int) < (nt : Int)) = false := decide_eq_false hlz1
    have HLD := Lib.hid hld
    gi_wp2_with fail
    all_goals try (first | (rename_i h _; simp [undef] at h; done) | (rename_i h _ _ _; simp at h; done) | (rename_i h _ _ _ _; simp [undef] at h; done) | (rename_i h _ _; simp [undef] at h; done))
    refine (callsIn_wide.2 (ofCb_any (w0.heap.size + 2) W2 (Ck.addK ([] : List Int) 4 k4) 5 false _ HOC.out (by simp [Ck.addK]; try (repeat' split) <;> simp))).mono ?_
    rintro e9 Wz ⟨rfl, hO⟩
    have HOX := Lib.hid hO
    clear hO
    gi_wp2_with fail
    gi_meet
    case rel =>
     refine ⟨rfl, ?_⟩
     rw [<- HK5.out, HLD.out]
     exact HOX.out
 case rest =>
 obtain ⟨rfl, hO⟩ := hcut
 obtain ⟨Wd, rfl⟩ : ∃ W, W = wc := ⟨_, rfl⟩
 replace HO := Lib.hid hO
 clear hO y0 y1 s0 s1 s2 s3
 obtain ⟨y0, y1, s0, s1, s2, s3, _⟩ := HCS.out Wd HO.out.below
 gi_upto_region 6 with fail
 gi_cut [6] from 86 (fun v6 W => v6 = .int .i64 wz /\ OutM (w0.heap.size + 2) W2 (Ck.addK (Ck.addK (Ck.addK ([] : List Int) 4 k4) 5 k5) 6 k6) W)
 case first =>
  have e5 := HBT5.out
  have e39 := HBT39.out
  clear HBT5 HBT39
  by_cases hl1 : 1 < n
  ·have hlz1 : ((1 : Int) < (n : Int)) := by omega
   have hld : decide (1 < n) = true := decide_eq_true hl1
   have hldz : decide ((1 : Int) < (n : Int)) = true := decide_eq_true hlz1
   have HLD := Lib.hid hld
   cases t5 with
   | true =>
    gi_wp2_with fail
    all_goals try (first | (rename_i h _; simp [undef] at h; done) | (rename_i h _ _ _; simp [undef] at h; done) | (rename_i h _ _ _ _; simp [undef] at h; done) | (rename_i h _ _; simp [undef] at h; done))
    refine (callsIn_wide.2 (ofCb_any (w0.heap.size + 2) W2 (Ck.addK (Ck.addK ([] : List Int) 4 k4) 5 k5) 6 true _ HO.out (by simp [Ck.addK]; try (repeat' split) <;> simp))).mono ?_
    rintro e9 Wz ⟨rfl, hO⟩
    have HOX := Lib.hid hO
    clear hO
    gi_wp2_with fail
    gi_meet
    case rel =>
     refine ⟨rfl, ?_⟩
     rw [<- HK6.out, HLD.out]
     exact HOX.out
   | false =>
    cases t39 with
    | true =>
     gi_wp2_with fail
     all_goals try (first | (rename_i h _; simp [undef] at h; done) | (rename_i h _ _ _; simp [undef] at h; done) | (rename_i h _ _ _ _; simp [undef] at h; done) | (rename_i h _ _; simp [undef] at h; done))
     refine (callsIn_wide.2 (ofCb_any (w0.heap.size + 2) W2 (Ck.addK (Ck.addK ([] : List Int) 4 k4) 5 k5) 6 true _ HO.out (by simp [Ck.addK]; try (repeat' split) <;> simp))).mono ?_
     rintro e9 Wz ⟨rfl, hO⟩
     have HOX := Lib.hid hO
     clear hO
     gi_wp2_with fail
     gi_meet
     case rel =>
      refine ⟨rfl, ?_⟩
      rw [<- HK6.out, HLD.out]
      exact HOX.out
    | false =>
     gi_wp2_with fail
     all_goals try (first | (rename_i h _; simp [undef] at h; done) | (rename_i h _ _ _; simp [undef] at h; done) | (rename_i h _ _ _ _; simp [undef] at h; done) | (rename_i h _ _; simp [undef] at h; done))
     refine (callsIn_wide.2 (ofCb_any (w0.heap.size + 2) W2 (Ck.addK (Ck.addK ([] : List Int) 4 k4) 5 k5) 6 false _ HO.out (by simp [Ck.addK]; try (repeat' split) <;> simp))).mono ?_
     rintro e9 Wz ⟨rfl, hO⟩
     have HOX := Lib.hid hO
     clear hO
     gi_wp2_with fail
     gi_meet
     case rel =>
      refine ⟨rfl, ?_⟩
      rw [<- HK6.out, HLD.out]
      exact HOX.out
  ·have hlz1 : ¬ ((1 : Int) < (n : Int)) := by omega
   have hld : decide (1 < n) = false := decide_eq_false hl1
   have hldz : decide ((1 : Int) < (n : Int)) = false := decide_eq_false hlz1
   have HLD := Lib.hid hld
   cases t5 with
   | true =>
    gi_wp2_with fail
    all_goals try (first | (rename_i h _; simp [undef] at h; done) | (rename_i h _ _ _; simp [undef] at h; done) | (rename_i h _ _ _ _; simp [undef] at h; done) | (rename_i h _ _; simp [undef] at h; done))
    refine (callsIn_wide.2 (ofCb_any (w0.heap.size + 2) W2 (Ck.addK (Ck.addK ([] : List Int) 4 k4) 5 k5) 6 false _ HO.out (by simp [Ck.addK]; try (repeat' split) <;> simp))).mono ?_
    rintro e9 Wz ⟨rfl, hO⟩
    have HOX := Lib.hid hO
    clear hO
    gi_wp2_with fail
    gi_meet
    case rel =>
     refine ⟨rfl, ?_⟩
     rw [<- HK6.out, HLD.out]
     exact HOX.out
   | false =>
    cases t39 with
    | true =>
     gi_wp2_with fail
     all_goals try (first | (rename_i h _; simp [undef] at h; done) | (rename_i h _ _ _; simp [undef] at h; done) | (rename_i h _ _ _ _; simp [undef] at h; done) | (rename_i h _ _; simp [undef] at h; done))
     refine (callsIn_wide.2 (ofCb_any (w0.heap.size + 2) W2 (Ck.addK (Ck.addK ([] : List Int) 4 k4) 5 k5) 6 false _ HO.out (by simp [Ck.addK]; try (repeat' split) <;> simp))).mono ?_
     rintro e9 Wz ⟨rfl, hO⟩
     have HOX := Lib.hid hO
     clear hO
     gi_wp2_with fail
     gi_meet
     case rel =>
      refine ⟨rfl, ?_⟩
      rw [<- HK6.out, HLD.out]
      exact HOX.out
    | false =>
     gi_wp2_with fail
     all_goals try (first | (rename_i h _; simp [undef] at h; done) | (rename_i h _ _ _; simp [undef] at h; done) | (rename_i h _ _ _ _; simp [undef] at h; done) | (rename_i h _ _; simp [undef] at h; done))
     refine (callsIn_wide.2 (ofCb_any (w0.heap.size + 2) W2 (Ck.addK (Ck.addK ([] : List Int) 4 k4) 5 k5) 6 false _ HO.out (by simp [Ck.addK]; try (repeat' split) <;> simp))).mono ?_
     rintro e9 Wz ⟨rfl, hO⟩
     have HOX := Lib.hid hO
     clear hO
     gi_wp2_with fail
     gi_meet
     case rel =>
      refine ⟨rfl, ?_⟩
      rw [<- HK6.out, HLD.out]
      exact HOX.out
 case rest =>
 obtain ⟨rfl, hO⟩ := hcut
 obtain ⟨We, rfl⟩ : ∃ W, W = wc := ⟨_, rfl⟩
 replace HO := Lib.hid hO
 clear hO y0 y1 s0 s1 s2 s3
 obtain ⟨y0, y1, s0, s1, s2, s3, _⟩ := HCS.out We HO.out.below
 gi_upto_region 7 with fail
 gi_cut [6] from 86 (fun v6 W => v6 = .int .i64 wz /\ OutM (w0.heap.size + 2) W2 (Ck.addK (Ck.addK (Ck.addK (Ck.addK ([] : List Int) 4 k4) 5 k5) 6 k6) 7 hd) W)
 case first =>
  gi_wp2_with fail
  all_goals try (first | (rename_i h _; simp [undef] at h; done) | (rename_i h _ _ _; simp [undef] at h; done) | (rename_i h _ _ _ _; simp [undef] at h; done) | (rename_i h _ _; simp [undef] at h; done))
  refine (callsIn_wide.2 (HHD.out We)).mono ?_
  rintro e9 Wy ⟨rfl, b9⟩
  have HOC := Lib.hid (HO.out.on b9)
  clear b9
  gi_wp2_with fail
  all_goals try (first | (rename_i h _; simp [undef] at h; done) | (rename_i h _ _ _; simp [undef] at h; done) | (rename_i h _ _ _ _; simp [undef] at h; done) | (rename_i h _ _; simp [undef] at h; done))
  refine (callsIn_wide.2 (ofCb_any (w0.heap.size + 2) W2 (Ck.addK (Ck.addK (Ck.addK ([] : List Int) 4 k4) 5 k5) 6 k6) 7 hd _ HOC.out (by simp [Ck.addK]; try (repeat' split) <;> simp))).mono ?_
  rintro e9 Wz ⟨rfl, hO⟩
  have HOX := Lib.hid hO
  clear hO
  gi_wp2_with fail
  gi_meet
  case rel =>
   refine ⟨rfl, ?_⟩
   exact HOX.out
 case rest =>
 obtain ⟨rfl, hO⟩ := hcut
 obtain ⟨Wf, rfl⟩ : ∃ W, W = wc := ⟨_, rfl⟩
 replace HO := Lib.hid hO
 clear hO y0 y1 s0 s1 s2 s3
 obtain ⟨y0, y1, s0, s1, s2, s3, _⟩ := HCS.out Wf HO.out.below
 gi_upto_region 8 with fail
 gi_cut [6] from 86 (fun v6 W => v6 = .int .i64 wz /\ OutM (w0.heap.size + 2) W2 (Ck.addK (Ck.addK (Ck.addK (Ck.addK (Ck.addK ([] : List Int) 4 k4) 5 k5) 6 k6) 7 hd) 8 k8) W)
 case first =>
  have e1 := HBZ1.out
  clear HBZ1
  cases z1 with
  | false =>
   gi_wp2_with fail
   all_goals try (first | (rename_i h _; simp [undef] at h; done) | (rename_i h _ _ _; simp [undef] at h; done) | (rename_i h _ _ _ _; simp [undef] at h; done) | (rename_i h _ _; simp [undef] at h; done))
   refine (callsIn_wide.2 (ofCb_any (w0.heap.size + 2) W2 (Ck.addK (Ck.addK (Ck.addK (Ck.addK ([] : List Int) 4 k4) 5 k5) 6 k6) 7 hd) 8 false _ HO.out (by simp [Ck.addK]; try (repeat' split) <;> simp))).mono ?_
   rintro e9 Wz ⟨rfl, hO⟩
   have HOX := Lib.hid hO
   clear hO
   gi_wp2_with fail
   gi_meet
   case rel =>
    refine ⟨rfl, ?_⟩
    rw [<- HK8.out]
    exact HOX.out
  | true =>
   gi_wp2_with fail
   all_goals try (first | (rename_i h _; simp [undef] at h; done) | (rename_i h _ _ _; simp [undef] at h; done) | (rename_i h _ _ _ _; simp [undef] at h; done) | (rename_i h _ _; simp [undef] at h; done))
   refine (callsIn_wide.2 (HCV.out (HUN.out (by first | rfl | trivial)) Wf HO.out.below)).mono ?_
   rintro e9 Wy ⟨rfl, b9⟩
   have HOC := Lib.hid (HO.out.on b9)
   clear b9
   cases cb with
   | true =>
    gi_wp2_with fail
    all_goals try (first | (rename_i h _; simp [undef] at h; done) | (rename_i h _ _ _; simp [undef] at h; done) | (rename_i h _ _ _ _; simp [undef] at h; done) | (rename_i h _ _; simp [undef] at h; done))
    refine (callsIn_wide.2 (ofCb_any (w0.heap.size + 2) W2 (Ck.addK (Ck.addK (Ck.addK (Ck.addK ([] : List Int) 4 k4) 5 k5) 6 k6) 7 hd) 8 true _ HOC.out (by simp [Ck.addK]; try (repeat' split) <;> simp))).mono ?_
    rintro e9 Wz ⟨rfl, hO⟩
    have HOX := Lib.hid hO
    clear hO
    gi_wp2_with fail
    gi_meet
    case rel =>
     refine ⟨rfl, ?_⟩
     rw [<- HK8.out]
     exact HOX.out
   | false =>
    gi_wp2_with fail
    all_goals try (first | (rename_i h _; simp [undef] at h; done) | (rename_i h _ _ _; simp [undef] at h; done) | (rename_i h _ _ _ _; simp [undef] at h; done) | (rename_i h _ _; simp [undef] at h; done))
    refine (callsIn_wide.2 (ofCb_any (w0.heap.size + 2) W2 (Ck.addK (Ck.addK (Ck.addK (Ck.addK ([] : List Int) 4 k4) 5 k5) 6 k6) 7 hd) 8 false _ HOC.out (by simp [Ck.addK]; try (repeat' split) <;> simp))).mono ?_
    rintro e9 Wz ⟨rfl, hO⟩
    have HOX := Lib.hid hO
    clear hO
    gi_wp2_with fail
    gi_meet
    case rel =>
     refine ⟨rfl, ?_⟩
     rw [<- HK8.out]
     exact HOX.out
 case rest =>
 obtain ⟨rfl, hO⟩ := hcut
 obtain ⟨Wg, rfl⟩ : ∃ W, W = wc := ⟨_, rfl⟩
 replace HO := Lib.hid hO
 clear hO y0 y1 s0 s1 s2 s3
 obtain ⟨y0, y1, s0, s1, s2, s3, _⟩ := HCS.out Wg HO.out.below
 gi_upto_region 9 with fail
 gi_cut [6] from 86 (fun v6 W => v6 = .int .i64 wz /\ OutM (w0.heap.size + 2) W2 (Ck.addK (Ck.addK (Ck.addK (Ck.addK (Ck.addK (Ck.addK ([] : List Int) 4 k4) 5 k5) 6 k6) 7 hd) 8 k8) 9 k9) W)
 case first =>
  have e2 := HBT2.out
  clear HBT2
  cases t2 with
  | false =>
   gi_wp2_with fail
   all_goals try (first | (rename_i h _; simp [undef] at h; done) | (rename_i h _ _ _; simp [undef] at h; done) | (rename_i h _ _ _ _; simp [undef] at h; done) | (rename_i h _ _; simp [undef] at h; done))
   refine (callsIn_wide.2 (ofCb_any (w0.heap.size + 2) W2 (Ck.addK (Ck.addK (Ck.addK (Ck.addK (Ck.addK ([] : List Int) 4 k4) 5 k5) 6 k6) 7 hd) 8 k8) 9 false _ HO.out (by simp [Ck.addK]; try (repeat' split) <;> simp))).mono ?_
   rintro e9 Wz ⟨rfl, hO⟩
   have HOX := Lib.hid hO
   clear hO
   gi_wp2_with fail
   gi_meet
   case rel =>
    refine ⟨rfl, ?_⟩
    rw [<- HK9.out]
    exact HOX.out
  | true =>
   gi_wp2_with fail
   all_goals try (first | (rename_i h _; simp [undef] at h; done) | (rename_i h _ _ _; simp [undef] at h; done) | (rename_i h _ _ _ _; simp [undef] at h; done) | (rename_i h _ _; simp [undef] at h; done))
   refine (callsIn_wide.2 (HWI.out Wg HO.out.below)).mono ?_
   rintro e9 Wy ⟨rfl, b9⟩
   have HOC := Lib.hid (HO.out.on b9)
   clear b9
   cases wi with
   | true =>
    gi_wp2_with fail
    all_goals try (first | (rename_i h _; simp [undef] at h; done) | (rename_i h _ _ _; simp [undef] at h; done) | (rename_i h _ _ _ _; simp [undef] at h; done) | (rename_i h _ _; simp [undef] at h; done))
    refine (callsIn_wide.2 (ofCb_any (w0.heap.size + 2) W2 (Ck.addK (Ck.addK (Ck.addK (Ck.addK (Ck.addK ([] : List Int) 4 k4) 5 k5) 6 k6) 7 hd) 8 k8) 9 true _ HOC.out (by simp [Ck.addK]; try (repeat' split) <;> simp))).mono ?_
    rintro e9 Wz ⟨rfl, hO⟩
    have HOX := Lib.hid hO
    clear hO
    gi_wp2_with fail
    gi_meet
    case rel =>
     refine ⟨rfl, ?_⟩
     rw [<- HK9.out]
     exact HOX.out
   | false =>
    gi_wp2_with fail
    all_goals try (first | (rename_i h _; simp [undef] at h; done) | (rename_i h _ _ _; simp [undef] at h; done) | (rename_i h _ _ _ _; simp [undef] at h; done) | (rename_i h _ _; simp [undef] at h; done))
    refine (callsIn_wide.2 (ofCb_any (w0.heap.size + 2) W2 (Ck.addK (Ck.addK (Ck.addK (Ck.addK (Ck.addK ([] : List Int) 4 k4) 5 k5) 6 k6) 7 hd) 8 k8) 9 false _ HOC.out (by simp [Ck.addK]; try (repeat' split) <;> simp))).mono ?_
    rintro e9 Wz ⟨rfl, hO⟩
    have HOX := Lib.hid hO
    clear hO
    gi_wp2_with fail
    gi_meet
    case rel =>
     refine ⟨rfl, ?_⟩
     rw [<- HK9.out]
     exact HOX.out
 case rest =>
 obtain ⟨rfl, hO⟩ := hcut
 obtain ⟨Wh, rfl⟩ : ∃ W, W = wc := ⟨_, rfl⟩
 replace HO := Lib.hid hO
 clear hO y0 y1 s0 s1 s2 s3
 obtain ⟨y0, y1, s0, s1, s2, s3, _⟩ := HCS.out Wh HO.out.below
 obtain ⟨⟨o9, c9, hbx, hrow⟩, hbl⟩ := HO.out
 have c0 := hbx.cell
 have HRW := Lib.hid hrow
 have HBL := Lib.hid hbl
 clear hrow hbl hbx y0 y1 s0 s1 s2 s3
 gi_wp2_with fail
 go_ret
 refine ⟨_, rfl, ?_, HB2.out _ HBL.out⟩
 rw [HKI.out]
 exact ⟨HRW.out.1, fun g hg => by have := HRW.out.2 g hg; omega⟩
end Go.Proofs.YtneghhbclefmoaaGreat
