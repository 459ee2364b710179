/- The document's New; the walk of ZoneAny. -/
import Derived.Test.YtneghhbclefmoaaGreatLReP
import Derived.Test.YtneghhbclefmoaaGreatJZnO
namespace Go.Proofs.YtneghhbclefmoaaGreat
open Go.RowKit Go.Shelf Go.Sort
set_option maxRecDepth 100000

theorem RecsRd.offSet {w : World} {o : Option Addr} {n cap : Nat} {l : List (El w)} {W : World} (h : RecsRd (.slice o n cap) (l.map (·.1)) W) {b : Nat} {c0 c1 : Value} {t : TypeId} (hk : Blk b #[c0, c1] t W) (i : Nat) (u : Value) (hb : Below w.heap.size w (W.setCell ⟨b, i, none⟩ u)) :
    RecsRd (.slice o n cap) (l.map (·.1)) (W.setCell ⟨b, i, none⟩ u) := by
  by_cases hl : l = []
  · subst hl
    obtain ⟨_, o2, c2, e1, e2, e3, e4, e5⟩ := h
    cases e1
    exact ⟨fun x hx => (by cases hx), o, cap, rfl, e2, e3, e4, fun j hj => (by simp [encP] at hj)⟩
  · refine h.set' (fun a ha e => ?_) u hb
    obtain ⟨hx, o2, c2, e1, e2, e3, e4, e5⟩ := h
    cases e1
    have h7 : (encP (l.map (·.1))).length = (l.map (·.1)).length * 7 := encP_len (fun x hx' => (hx x hx').len)
    have hpos : 0 < l.length := List.length_pos_iff.2 hl
    obtain ⟨a', ha', hc⟩ := e5 6 (by rw [h7, List.length_map]; omega)
    rw [ha] at ha'; cases ha'
    have : (a.add 6) = ⟨b, a.off + 6, none⟩ := by subst e; rfl
    rw [this, hk.cell] at hc
    simp at hc
def RNewR {w : World} (l : List (El w)) (oo : Option Addr) (on oc : Nat) (w0 : World) (e : Ending) (w' : World) : Prop :=
  ∃ (c : List (El w)) (v' : Value), plE c = Rc.canon (plE l) ∧ c.length ≤ l.length ∧ e = .returned (.agg #[.slice oo on oc, v']) ∧ RecsRd v' (c.map (·.1)) w' ∧ Below w0.heap.size w0 w'
set_option maxHeartbeats 1000000 in
theorem rNew_any {w w0 : World} (oo : Option Addr) (on oc : Nat) (v : Value) (l : List (El w)) (hb0 : Below w.heap.size w w0) (hv : RecsRd v (l.map (·.1)) w0) (na : l.length ≤ 1000) :
    Calls Tryz.prog 13 #[.slice oo on oc, v] w0 (RNewR l oo on oc w0) := by
  obtain ⟨ov, cv, rfl⟩ : ∃ o cap, v = .slice o l.length cap := by obtain ⟨_, o, cap, h, _⟩ := hv; exact ⟨o, cap, by rw [h, List.length_map]⟩
  obtain ⟨W1, hW1⟩ : ∃ W1, w0.alloc (.cells #[.slice none 0 0, .slice none 0 0] 33) = W1 := ⟨_, rfl⟩
  obtain ⟨hb1, hbk⟩ := zBox hW1
  have HB0 := Lib.hid hb0
  have HB1 := Lib.hid hb1
  have HBK := Lib.hid hbk
  have HC := Lib.hid (refCanon_any (w0 := W1) _ l (below5 hb0 hb1) (hv.kept hb1) na)
  clear hv hb0 hb1 hbk na
  refine (callsIn_wide (n := 0)).1 ?_
  refine callsIn_of_wp Tryz.func13 rfl trivial ?_ rfl
  simp only [Tryz.ntmps13, List.size_toArray, List.length_cons, List.length_nil, Nat.reduceAdd, Nat.reduceSub, Array.replicate_succ, Array.replicate_zero, List.push_toArray, List.append_toArray, List.nil_append, List.cons_append]
  gi_wp2_with fail
  refine (callsIn_wide.2 HC.out).mono ?_
  rintro e9 w1 ⟨c, v', hp, hl, rfl, hr, b9⟩
  obtain ⟨o', c', rfl⟩ : ∃ o cap, v' = .slice o c.length cap := by obtain ⟨_, o, cap, h, _⟩ := hr; exact ⟨o, cap, by rw [h, List.length_map]⟩
  have HBD := Lib.hid (below5 HB1.out b9)
  have HKD := Lib.hid (HBK.out.below b9)
  have HR := Lib.hid hr
  have HP := Lib.hid hp
  have k0 : w1.cell? ⟨w0.heap.size, 0, none⟩ = some _ := HKD.out.cell 0
  have k1 : w1.cell? ⟨w0.heap.size, 1, none⟩ = some _ := HKD.out.cell 1
  have y0 := HKD.out.frozen 0
  have y1 := HKD.out.frozen 1
  clear hp hr b9 HC hW1
  gi_wp2_with fail
  obtain ⟨W5, hW5⟩ : ∃ W, (w1.setCell ⟨w0.heap.size, 0, none⟩ (.slice oo on oc)).setCell ⟨w0.heap.size, 1, none⟩ (.slice o' c.length c') = W := ⟨_, rfl⟩
  have hbl5 : Blk w0.heap.size #[.slice oo on oc, .slice o' c.length c'] 33 W5 := by subst hW5; exact (HKD.out.setAt 0 _).setAt 1 _
  have hba : Below w0.heap.size w0 (w1.setCell ⟨w0.heap.size, 0, none⟩ (.slice oo on oc)) := HBD.out.setCell (p := ⟨w0.heap.size, 0, none⟩) (Nat.le_refl _) _
  have hb5' : Below w0.heap.size w0 ((w1.setCell ⟨w0.heap.size, 0, none⟩ (.slice oo on oc)).setCell ⟨w0.heap.size, 1, none⟩ (.slice o' c.length c')) := hba.setCell (p := ⟨w0.heap.size, 1, none⟩) (Nat.le_refl _) _
  have hr5 : RecsRd (.slice o' c.length c') (c.map (·.1)) W5 := by
    rw [← hW5]
    exact (HR.out.offSet HKD.out 0 _ (below5 HB0.out hba)).offSet (HKD.out.setAt 0 _) 1 _ (below5 HB0.out hb5')
  have hb5 : Below w0.heap.size w0 W5 := by rw [← hW5]; exact hb5'
  have HR5 := Lib.hid hr5
  have HB5 := Lib.hid hb5
  have b0 : W5.cell? ⟨w0.heap.size, 0, none⟩ = some _ := hbl5.cell 0
  have b1 : W5.cell? ⟨w0.heap.size, 1, none⟩ = some _ := hbl5.cell 1
  rw [hW5]
  clear hbl5 hb5 hb5' hba hr5 hW5 k0 k1 y0 y1
  refine bodyPost_ret (v := .agg #[.slice oo on oc, .slice o' c.length c']) (by simp at b0 b1; simp [results, Tryz.results13, go_sem, b0, b1]) rfl ?_
  exact ⟨c, _, HP.out, hl, rfl, HR5.out, HB5.out⟩
namespace Rc
theorem put_len (x : PRec) : ∀ L : List PRec, (put x L).length ≤ L.length + 1
  | [] => by simp [put]
  | y :: L => by
    have ih := put_len x L
    unfold put
    split
    · simp only [List.length_cons]; omega
    · split <;> simp
theorem canon_len (l : List PRec) : (canon l).length ≤ l.length := by
  rw [canon_eq]
  suffices H : ∀ (l L : List PRec), (l.foldl (fun c x => put x c) L).length ≤ L.length + l.length from by have h := H l []; unfold refCanon; simpa using h
  intro l
  induction l with
  | nil => intro L; simp
  | cons x l ih =>
    intro L
    have h1 := ih (put x L)
    have h2 := put_len x L
    simp only [List.foldl_cons, List.length_cons]
    omega
end Rc
theorem datOf_sub (c : List Rc.PRec) : (∀ r ∈ Rs.datOf c, r ∈ c) ∧ (Rs.datOf c).length ≤ c.length := by
  unfold Rs.datOf
  cases c with
  | nil => exact ⟨fun r h => h, Nat.le_refl _⟩
  | cons x xs => exact ⟨fun r h => List.mem_of_mem_take h, by rw [List.length_take]; exact Nat.min_le_right _ _⟩
theorem mine_sub {p : Rc.PRec → Prop} (hp : ∀ (y : Rc.PRec) (t : Nat), p y → p { y with ttl := t }) (L : List Rc.PRec) (n : List (List UInt8)) (t : Int) (h : ∀ r ∈ L, p r) : (∀ r ∈ Rs.mine L n t, p r) ∧ (Rs.mine L n t).length ≤ L.length := by
  unfold Rs.mine
  exact ⟨Rs.canon_all hp _ (fun z hz => h z (List.mem_filter.1 hz).1), Nat.le_trans (Rc.canon_len _) (List.length_filter_le _ _)⟩
theorem glue_df (L : List Rc.PRec) (n : List (List UInt8)) (h : ∀ r ∈ L, DF r) : (∀ r ∈ Zn.glueT L n 2, DF r) ∧ (Zn.glueT L n 2).length ≤ 2 * L.length := by
  have e : Zn.glueT L n 2 = ([] ++ Rs.datOf (Rs.mine L n 1)) ++ Rs.datOf (Rs.mine L n 28) := rfl
  obtain ⟨a1, a2⟩ := datOf_sub (Rs.mine L n 1)
  obtain ⟨b1, b2⟩ := datOf_sub (Rs.mine L n 28)
  obtain ⟨m1, m2⟩ := mine_sub (p := DF) (fun y t hy => hy.ttl t) L n 1 h
  obtain ⟨k1, k2⟩ := mine_sub (p := DF) (fun y t hy => hy.ttl t) L n 28 h
  rw [e]
  refine ⟨fun r hr => ?_, ?_⟩
  · rw [List.nil_append] at hr
    rcases List.mem_append.1 hr with hr | hr
    · exact m1 r (a1 r hr)
    · exact k1 r (b1 r hr)
  · rw [List.nil_append, List.length_append]; omega
theorem cut_len (o : Zn.Nam) (L : List Rc.PRec) (n : Zn.Nam) : (Zn.cut o L n).length ≤ n.length := by
  unfold Zn.cut
  split
  · simp
  · simp
theorem src_len (o : Zn.Nam) (L : List Rc.PRec) (n : Zn.Nam) : (Zn.src o L n).length ≤ n.length + 1 := by
  unfold Zn.src
  split
  · have := Zn.encl_len o L n
    unfold Zn.star
    rw [List.length_cons]; omega
  · simp
def TrZ (w : World) (e : Ending) (w' : World) : Prop := e = .returned (.bool true) ∧ Below w.heap.size w w'
set_option maxHeartbeats 8000000 in
theorem walkZoneAny (v0 : Value) (l0 : List (List UInt8)) (v1 : Value) (l1 : List RP) (v2 : Value) (l2 : List (List UInt8)) (w : World) (h0 : Rd v0 l0 w) (h1 : RecsRd v1 l1 w ∧ ∀ x ∈ l1, RN x.2) (h2 : Rd v2 l2 w) :
    Calls Tryz.prog 3 #[v0, v1, v2] w (TrZ w) := by
  obtain ⟨h1, hrn⟩ := h1
  obtain ⟨oo, co, rfl, _, _⟩ := h0.form
  obtain ⟨on, cn, rfl, _, _⟩ := h2.form
  obtain ⟨ov, cv, rfl⟩ : ∃ o cap, v1 = .slice o l1.length cap := by obtain ⟨_, o, cap, h, _⟩ := h1; exact ⟨o, cap, h⟩
  have HO := Lib.hid h0
  have HV := Lib.hid h1
  have HN := Lib.hid h2
  have HRN := Lib.hid hrn
  clear h0 h1 h2 hrn
  refine (callsIn_wide (n := 0)).1 ?_
  refine callsIn_of_wp Tryz.func3 rfl trivial ?_ rfl
  simp only [Tryz.ntmps3, List.size_toArray, List.length_cons, List.length_nil, Nat.reduceAdd, Nat.reduceSub, Array.replicate_succ, Array.replicate_zero, List.push_toArray, List.append_toArray, List.nil_append, List.cons_append]
  gi_wp2_with fail
  refine (callsIn_wide.2 (known12_any _)).mono ?_
  rintro e w1 ⟨rfl, b1⟩
  have HG := Lib.hid (good12_any _ _ l0 l1 w1 (HO.out.below b1) (HV.out.kept b1))
  have HB1 := Lib.hid b1
  clear b1
  gi_wp2_with fail
  refine (callsIn_wide.2 HG.out).mono ?_
  rintro e w2 ⟨b, rfl, hq, b2⟩
  have HB2 := Lib.hid (below5 HB1.out b2)
  have HQ := Lib.hid hq
  clear HG b2 hq HB1
  cases b with
  | false =>
    gi_wp2_with fail
    go_ret
    exact ⟨rfl, HB2.out⟩
  | true =>
  obtain ⟨hgo, hrf⟩ := HQ.out rfl
  obtain ⟨nbo, lo140, _, _⟩ := Nm.good2_parts hgo
  have HRF := Lib.hid hrf
  have NBO := Lib.hid nbo
  have HG2 := Lib.hid (good2_any _ l2 w2 (HN.out.below HB2.out))
  obtain ⟨gz, hgz⟩ : ∃ gz, Nm.good2 l2 = gz := ⟨_, rfl⟩
  have HGZ := Lib.hid hgz
  rw [hgz] at HG2
  clear hgo hrf nbo hgz HQ
  gi_wp2_with fail
  refine (callsIn_wide.2 HG2.out).mono ?_
  rintro e w3 ⟨rfl, b3⟩
  have HB3 := Lib.hid (below5 HB2.out b3)
  clear HG2 b3
  cases gz with
  | false =>
    gi_wp2_with fail
    go_ret
    exact ⟨rfl, HB3.out⟩
  | true =>
  obtain ⟨nbn, ln140, _, _⟩ := Nm.good2_parts HGZ.out
  have NBN := Lib.hid nbn
  have hrk := HV.out.kept HB3.out
  have HDF0 : Hid (∀ r ∈ l1.map (·.2), DF r) := fun r hr => by
    obtain ⟨x, hx, rfl⟩ := List.mem_map.1 hr
    exact HRF.out.dat x hx
  obtain ⟨l, hL, hL60, hLl⟩ := els_of hrk HRF.out HRN.out
  have hrec : RecsRd (.slice ov l1.length cv) (l.map (·.1)) w3 := by rw [hL]; exact hrk
  have HLP : Hid (plE l = l1.map (·.2)) := by show _ = _; rw [← hL, List.map_map]; rfl
  have HNW := Lib.hid (zNew_any oo l0.length co _ l hrec (by omega))
  have HRC := Lib.hid hrec
  clear hrk hrec hL nbn HRF
  gi_wp2_with fail
  refine (callsIn_wide.2 HNW.out).mono ?_
  rintro e w4 ⟨v6, l6, rfl, r6, p6, n6, b4⟩
  obtain ⟨o6, c6, rfl⟩ : ∃ o cap, v6 = .slice o l6.length cap := by obtain ⟨_, o, cap, h, _⟩ := r6; exact ⟨o, cap, by rw [h, List.length_map]⟩
  obtain ⟨c6n, hc6⟩ : ∃ m, l6.length = m := ⟨_, rfl⟩
  rw [hc6] at r6 ⊢
  have HR6 := Lib.hid r6
  have HP6 : Hid (plE l6 = Rc.canon (l1.map (·.2))) := by show _ = _; rw [p6, HLP.out]
  have HC6 := Lib.hid hc6
  have HB34 := Lib.hid b4
  clear HNW r6 p6 b4 hc6
  gi_wp2_with fail
  obtain ⟨w5, hw5⟩ : ∃ W, w4.alloc (.cells #[.slice oo l0.length co, .slice o6 c6n c6] 29) = W := ⟨_, rfl⟩
  obtain ⟨bz, hbz⟩ : ∃ b, w4.heap.size = b := ⟨_, rfl⟩
  have HKZ : Hid (Blk bz #[.slice oo l0.length co, .slice o6 c6n c6] 29 w5) := by show Blk _ _ _ _; rw [← hw5, ← hbz]; exact Blk.new w4 _ _
  have HB35 : Hid (Below w3.heap.size w3 w5) := by show Below _ _ _; rw [← hw5]; exact HB34.out.alloc HB34.out.size _
  have HB45 : Hid (Below w4.heap.size w4 w5) := by show Below _ _ _; rw [← hw5]; exact (Below.refl _ _).alloc (Nat.le_refl _) _
  rw [hw5, hbz]
  clear hw5 hbz
  have HOA := Lib.hid (ofAll_any (w0 := w5) _ l HB35.out (HRC.out.kept HB35.out) (by omega))
  refine (callsIn_wide.2 HOA.out).mono ?_
  rintro e w6 ⟨v7, l7, rfl, r7, p7, b6⟩
  have hl7 : l7.length = l.length := by have := congrArg List.length p7; rwa [plE_len, plE_len] at this
  have HRN8 := Lib.hid (rNew_any (w0 := w6) oo l0.length co _ l7 (Below.refl _ _) r7 (by omega))
  have HP7 : Hid (plE l7 = l1.map (·.2)) := by show _ = _; rw [p7, HLP.out]
  have HB56 := Lib.hid b6
  clear HOA r7 p7 b6
  gi_wp2_with fail
  refine (callsIn_wide.2 HRN8.out).mono ?_
  rintro e w7 ⟨l8, v8, p8, n8, rfl, r8, b7⟩
  obtain ⟨o8, c8, rfl⟩ : ∃ o cap, v8 = .slice o l8.length cap := by obtain ⟨_, o, cap, h, _⟩ := r8; exact ⟨o, cap, by rw [h, List.length_map]⟩
  obtain ⟨c8n, hc8⟩ : ∃ m, l8.length = m := ⟨_, rfl⟩
  rw [hc8] at r8 ⊢
  have HR8 := Lib.hid r8
  have HP8 : Hid (plE l8 = Rc.canon (l1.map (·.2))) := by show _ = _; rw [p8, HP7.out]
  have HC8 := Lib.hid hc8
  have HB67 := Lib.hid b7
  clear HRN8 r8 p8 b7 hc8
  gi_wp2_with fail
  obtain ⟨w8, hw8⟩ : ∃ W, w7.alloc (.cells #[.slice oo l0.length co, .slice o8 c8n c8] 33) = W := ⟨_, rfl⟩
  obtain ⟨bx, hbx⟩ : ∃ b, w7.heap.size = b := ⟨_, rfl⟩
  have HKX : Hid (Blk bx #[.slice oo l0.length co, .slice o8 c8n c8] 33 w8) := by show Blk _ _ _ _; rw [← hw8, ← hbx]; exact Blk.new w7 _ _
  have HB78 : Hid (Below w7.heap.size w7 w8) := by show Below _ _ _; rw [← hw8]; exact (Below.refl _ _).alloc (Nat.le_refl _) _
  rw [hw8, hbx]
  clear hw8 hbx
  -- all is read in w6
  have HB68 := Lib.hid (below5 HB67.out HB78.out)
  have HB36 := Lib.hid (below5 HB35.out HB56.out)
  obtain ⟨lz, hlz⟩ : ∃ lz, l6.map (El.up HB36.out) = lz := ⟨_, rfl⟩
  have hlzl : lz.length = c6n := by rw [← hlz, List.length_map]; exact HC6.out
  have HPZ : Hid (plE lz = Rc.canon (l1.map (·.2))) := by show _ = _; rw [← hlz, up_pl]; exact HP6.out
  have HRZ : Hid (∀ W', Below w8.heap.size w8 W' → RecsRd (.slice o6 c6n c6) (lz.map (·.1)) W') := fun W' hW => by
    rw [← hlz, up_fst]
    exact HR6.out.kept (below5 (below5 HB45.out HB56.out) (below5 HB68.out hW))
  have HRX : Hid (∀ W', Below w8.heap.size w8 W' → RecsRd (.slice o8 c8n c8) (l8.map (·.1)) W') := fun W' hW => HR8.out.kept (below5 HB78.out hW)
  have HOW : Hid (∀ W', Below w8.heap.size w8 W' → Rd (.slice oo l0.length co) l0 W') := fun W' hW => HO.out.below (below5 HB3.out (below5 HB36.out (below5 HB68.out hW)))
  have HNW : Hid (∀ W', Below w8.heap.size w8 W' → Rd (.slice on l2.length cn) l2 W') := fun W' hW => HN.out.below (below5 HB3.out (below5 HB36.out (below5 HB68.out hW)))
  have HCS : Hid (∀ W', Below w8.heap.size w8 W' → Cs [(⟨bz, 0, none⟩, Value.slice oo l0.length co), (⟨bz, 1, none⟩, .slice o6 c6n c6), (⟨bx, 0, none⟩, .slice oo l0.length co), (⟨bx, 1, none⟩, .slice o8 c8n c8)] W') := fun W' hW => ⟨(HKZ.out.below (below5 HB56.out (below5 HB68.out hW))).cell 0, (HKZ.out.below (below5 HB56.out (below5 HB68.out hW))).cell 1, (HKX.out.below hW).cell 0, (HKX.out.below hW).cell 1, trivial⟩
  obtain ⟨P, hP⟩ : ∃ P, Rc.canon (l1.map (·.2)) = P := ⟨_, rfl⟩
  have hPD : ∀ r ∈ P, DF r := by rw [← hP]; exact Rs.canon_all (p := DF) (fun y t hy => hy.ttl t) _ HDF0.out
  have hxn6 : l8.length ≤ 60 := by omega
  have hP60 : P.length ≤ 60 := by rw [← hP, ← HP8.out, plE_len]; exact hxn6
  rw [hP] at HPZ HP8
  have hzn : lz.length ≤ 1000 := by rw [hlzl]; have := HC6.out; omega
  have hxn : l8.length ≤ 1000 := by omega
  have HB8w := Lib.hid (below5 HB3.out (below5 HB36.out HB68.out))
  have HISO : Hid (∀ W', Below w8.heap.size w8 W' → Calls Tryz.prog 15 #[.slice oo l0.length co, .slice oo l0.length co] W' (Gives (.bool true) W')) := fun W' hW => by
    have := isLen_any _ _ l0 l0 W' (HOW.out W' hW) (HOW.out W' hW) (by omega) (by omega)
    rw [beq_self_eq_true] at this; exact this
  have HOF : Hid (∀ W', Below w8.heap.size w8 W' → Calls Tryz.prog 14 #[.slice o6 c6n c6] W' (OfAllR lz W')) := fun W' hW => by
    have h := ofAll_any (w0 := W') (.slice o6 c6n c6) lz (below5 HB68.out hW) (HRZ.out W' hW) hzn
    exact h
  clear hlz hP HKZ HKX HR6 HR8 HO HN HV
  clear n6 n8 hl7 hlzl
  gi_wp2_with fail
  refine drawnH (List.range 14) (Cs [(⟨bz, 0, none⟩, Value.slice oo l0.length co), (⟨bz, 1, none⟩, .slice o6 c6n c6), (⟨bx, 0, none⟩, .slice oo l0.length co), (⟨bx, 1, none⟩, .slice o8 c8n c8)]) 14 rfl (by kernel_rfl) ?_
  intro wa hwa
  have HBA : Hid (Below w8.heap.size w8 wa) := by subst hwa; exact (Below.refl _ _).drew
  have hS := HCS.out wa HBA.out
  clear hwa
  refine takeH 0 (v := ?qav0) (fun _ => trivial) (by rfl) (by kernel_rfl) hS (.inl ⟨by kernel_rfl, fun w1 ⟨z0, z1, x0, x1, _⟩ => ?qay0⟩) ?_
  case qay0 => (go_simp; try first | rfl | (rw [if_pos (by omega)]) | (rw [if_neg (by omega)]) | (rw [if_neg (by simp; omega)]) | (split <;> first | (exfalso; omega) | rfl))
  refine takeH 1 (v := ?qav1) (fun _ => trivial) (by rfl) (by kernel_rfl) hS (.inl ⟨by kernel_rfl, fun w1 ⟨z0, z1, x0, x1, _⟩ => ?qay1⟩) ?_
  case qay1 => (go_simp; try first | rfl | (rw [if_pos (by omega)]) | (rw [if_neg (by omega)]) | (rw [if_neg (by simp; omega)]) | (split <;> first | (exfalso; omega) | rfl))
  refine takeH 2 (v := ?qav2) (fun _ => trivial) (by rfl) (by kernel_rfl) hS (.inl ⟨by kernel_rfl, fun w1 ⟨z0, z1, x0, x1, _⟩ => ?qay2⟩) ?_
  case qay2 => (go_simp; try first | rfl | (rw [if_pos (by omega)]) | (rw [if_neg (by omega)]) | (rw [if_neg (by simp; omega)]) | (split <;> first | (exfalso; omega) | rfl))
  simp only [Act.put, List.setIfInBounds_toArray, List.set_cons_succ, List.set_cons_zero]
  refine oneH 3 (by rfl) (by kernel_rfl) (fun K hK => ?_)
  gi_wp2_with (gi_at_call 15; refine (callsIn_wide.2 (HISO.out wa HBA.out)).mono ?_; rintro e9 wb ⟨rfl, b9⟩)
  have HBB := Lib.hid (below5 HBA.out b9)
  replace hS := HCS.out wb HBB.out
  refine hK _ _ (fun _ => hS) ?_
  clear hK K b9
  refine takeH 4 (v := ?qbv4) (fun _ => trivial) (by rfl) (by kernel_rfl) hS (.inl ⟨by kernel_rfl, fun w1 ⟨z0, z1, x0, x1, _⟩ => ?qby4⟩) ?_
  case qby4 => (go_simp; try first | rfl | (rw [if_pos (by omega)]) | (rw [if_neg (by omega)]) | (rw [if_neg (by simp; omega)]) | (split <;> first | (exfalso; omega) | rfl))
  refine takeH 5 (v := ?qbv5) (fun _ => trivial) (by rfl) (by kernel_rfl) hS (.inl ⟨by kernel_rfl, fun w1 ⟨z0, z1, x0, x1, _⟩ => ?qby5⟩) ?_
  case qby5 => (go_simp; try first | rfl | (rw [if_pos (by omega)]) | (rw [if_neg (by omega)]) | (rw [if_neg (by simp; omega)]) | (split <;> first | (exfalso; omega) | rfl))
  refine takeH 6 (v := ?qbv6) (fun _ => trivial) (by rfl) (by kernel_rfl) hS (.inl ⟨by kernel_rfl, fun w1 ⟨z0, z1, x0, x1, _⟩ => ?qby6⟩) ?_
  case qby6 => (go_simp; try first | rfl | (rw [if_pos (by omega)]) | (rw [if_neg (by omega)]) | (rw [if_neg (by simp; omega)]) | (split <;> first | (exfalso; omega) | rfl))
  refine takeH 7 (v := ?qbv7) (fun _ => trivial) (by rfl) (by kernel_rfl) hS (.inl ⟨by kernel_rfl, fun w1 ⟨z0, z1, x0, x1, _⟩ => ?qby7⟩) ?_
  case qby7 => (go_simp; try first | rfl | (rw [if_pos (by omega)]) | (rw [if_neg (by omega)]) | (rw [if_neg (by simp; omega)]) | (split <;> first | (exfalso; omega) | rfl))
  refine takeH 9 (v := ?qbv9) (fun _ => trivial) (by rfl) (by kernel_rfl) hS (.inl ⟨by kernel_rfl, fun w1 ⟨z0, z1, x0, x1, _⟩ => ?qby9⟩) ?_
  case qby9 => (go_simp; try first | rfl | (rw [if_pos (by omega)]) | (rw [if_neg (by omega)]) | (rw [if_neg (by simp; omega)]) | (split <;> first | (exfalso; omega) | rfl))
  refine takeH 10 (v := ?qbv10) (fun _ => trivial) (by rfl) (by kernel_rfl) hS (.inl ⟨by kernel_rfl, fun w1 ⟨z0, z1, x0, x1, _⟩ => ?qby10⟩) ?_
  case qby10 => (go_simp; try first | rfl | (rw [if_pos (by omega)]) | (rw [if_neg (by omega)]) | (rw [if_neg (by simp; omega)]) | (split <;> first | (exfalso; omega) | rfl))
  simp only [Act.put, List.setIfInBounds_toArray, List.set_cons_succ, List.set_cons_zero]
  refine oneH 8 (by rfl) (by kernel_rfl) (fun K hK => ?_)
  gi_wp2_with (gi_at_call 14; refine (callsIn_wide.2 (HOF.out wb HBB.out)).mono ?_; rintro e9 wc ⟨vq, lq, rfl, rq, pq, b9⟩)
  have HBC := Lib.hid (below5 HBB.out b9)
  have hb6c := below5 HB68.out HBC.out
  have HIS5 := Lib.hid (is5_any (w0 := wc) vq (.slice o8 c8n c8) lq (l8.map (El.up hb6c)) (Below.refl _ _) rq (by rw [up_fst]; exact HRX.out wc HBC.out) (by rw [pq, up_pl, HPZ.out, HP8.out]) (by have := congrArg List.length pq; rw [plE_len, plE_len] at this; omega))
  replace hS := HCS.out wc HBC.out
  refine hK _ _ (fun _ => hS) ?_
  clear hK K b9 rq pq hb6c HOF HISO
  refine oneH 11 (by rfl) (by kernel_rfl) (fun K hK => ?_)
  gi_wp2_with (gi_at_call 16; refine (callsIn_wide.2 HIS5.out).mono ?_; rintro e9 wd ⟨rfl, b9⟩)
  have HBD := Lib.hid (below5 HBC.out b9)
  replace hS := HCS.out wd HBD.out
  refine hK _ _ (fun _ => hS) ?_
  clear hK K b9 HIS5
  refine takeH 12 (v := ?qcv12) (fun _ => trivial) (by rfl) (by kernel_rfl) hS (.inl ⟨by kernel_rfl, fun w1 ⟨z0, z1, x0, x1, _⟩ => ?qcy12⟩) ?_
  case qcy12 => (go_simp; try first | rfl | (rw [if_pos (by omega)]) | (rw [if_neg (by omega)]) | (rw [if_neg (by simp; omega)]) | (split <;> first | (exfalso; omega) | rfl))
  refine takeH 13 (v := ?qcv13) (fun _ => trivial) (by rfl) (by kernel_rfl) hS (.inl ⟨by kernel_rfl, fun w1 ⟨z0, z1, x0, x1, _⟩ => ?qcy13⟩) ?_
  case qcy13 => (go_simp; try first | rfl | (rw [if_pos (by omega)]) | (rw [if_neg (by omega)]) | (rw [if_neg (by simp; omega)]) | (split <;> first | (exfalso; omega) | rfl))
  simp only [Act.put, List.setIfInBounds_toArray, List.set_cons_succ, List.set_cons_zero]
  refine doneH (by kernel_rfl) ?_
  clear hS
  obtain ⟨z0, z1, x0, x1, _⟩ := HCS.out wd HBD.out
  have HCZ := Lib.hid (zCutOf_any (w0 := wd) _ _ _ lz l0 l2 (below5 HB68.out HBD.out) (HRZ.out wd HBD.out) hzn (HOW.out wd HBD.out) NBO.out (HNW.out wd HBD.out) NBN.out)
  rw [HPZ.out] at HCZ
  gi_wp2_with fail
  refine (callsIn_wide.2 HCZ.out).mono ?_
  rintro e9 we ⟨va, rfl, ra, b9⟩
  obtain ⟨ct, hct⟩ : ∃ c, Zn.cut l0 P l2 = c := ⟨_, rfl⟩
  obtain ⟨ic, hic⟩ : ∃ c, Zn.isCut l0 P l2 = c := ⟨_, rfl⟩
  have hctl : ct.length ≤ 1000 := by rw [← hct]; exact Nat.le_trans (cut_len _ _ _) (by omega)
  rw [hct] at ra
  rw [hic]
  obtain ⟨oa, ca, rfl, _, _⟩ := ra.form
  have HBE := Lib.hid (below5 HBD.out b9)
  have HRA := Lib.hid ra
  clear b9 ra HCZ z0 z1 x0 x1
  obtain ⟨z0, z1, x0, x1, _⟩ := HCS.out we HBE.out
  have HCX := Lib.hid (rCutOf_any (w0 := we) _ _ _ l8 l0 l2 (below5 HB68.out HBE.out) (HRX.out we HBE.out) hxn (HOW.out we HBE.out) NBO.out (HNW.out we HBE.out) NBN.out)
  rw [HP8.out] at HCX
  gi_wp2_with fail
  refine (callsIn_wide.2 HCX.out).mono ?_
  rintro e9 wf ⟨vb, rfl, rb, b9⟩
  rw [hct] at rb
  rw [hic]
  obtain ⟨ob, cb, rfl, _, _⟩ := rb.form
  have HBF := Lib.hid (below5 HBE.out b9)
  have HBEF := Lib.hid b9
  have HRB := Lib.hid rb
  clear b9 rb HCX z0 z1 x0 x1
  obtain ⟨z0, z1, x0, x1, _⟩ := HCS.out wf HBF.out
  have HSZ := Lib.hid (zSource_any (w0 := wf) _ _ _ lz l0 l2 (below5 HB68.out HBF.out) (HRZ.out wf HBF.out) hzn (HOW.out wf HBF.out) NBO.out (HNW.out wf HBF.out) NBN.out (by omega))
  rw [HPZ.out] at HSZ
  gi_wp2_with fail
  refine (callsIn_wide.2 HSZ.out).mono ?_
  rintro e9 wg ⟨vc, rfl, rc, b9⟩
  obtain ⟨sr, hsr⟩ : ∃ c, Zn.src l0 P l2 = c := ⟨_, rfl⟩
  obtain ⟨is, his⟩ : ∃ c, Zn.isSrc l0 P l2 = c := ⟨_, rfl⟩
  have hsrl : sr.length ≤ 1000 := by rw [← hsr]; exact Nat.le_trans (src_len _ _ _) (by omega)
  rw [hsr] at rc
  rw [his]
  obtain ⟨oc, cc, rfl, _, _⟩ := rc.form
  have HBG := Lib.hid (below5 HBF.out b9)
  have HBFG := Lib.hid b9
  have HRCC := Lib.hid rc
  clear b9 rc HSZ z0 z1 x0 x1
  obtain ⟨z0, z1, x0, x1, _⟩ := HCS.out wg HBG.out
  have HSX := Lib.hid (rSource_any (w0 := wg) _ _ _ l8 l0 l2 (below5 HB68.out HBG.out) (HRX.out wg HBG.out) hxn (HOW.out wg HBG.out) NBO.out (HNW.out wg HBG.out) NBN.out (by omega))
  rw [HP8.out] at HSX
  gi_wp2_with fail
  refine (callsIn_wide.2 HSX.out).mono ?_
  rintro e9 wh ⟨vd, rfl, rd, b9⟩
  rw [hsr] at rd
  rw [his]
  obtain ⟨od, cd, rfl, _, _⟩ := rd.form
  have HBH := Lib.hid (below5 HBG.out b9)
  have HBGH := Lib.hid b9
  have HBFH := Lib.hid (below5 HBFG.out b9)
  have HRD := Lib.hid rd
  clear b9 rd HSX z0 z1 x0 x1
  have HISA : Hid (∀ W', Below wh.heap.size wh W' → Calls Tryz.prog 15 #[.slice oa ct.length ca, .slice ob ct.length cb] W' (Gives (.bool true) W')) := fun W' hW => by
    have := isLen_any _ _ ct ct W' (HRA.out.below (below5 HBEF.out (below5 HBFH.out hW))) (HRB.out.below (below5 HBFH.out hW)) hctl hctl
    rw [beq_self_eq_true] at this; exact this
  have HISC : Hid (∀ W', Below wh.heap.size wh W' → Calls Tryz.prog 15 #[.slice oc sr.length cc, .slice od sr.length cd] W' (Gives (.bool true) W')) := fun W' hW => by
    have := isLen_any _ _ sr sr W' (HRCC.out.below (below5 HBGH.out hW)) (HRD.out.below hW) hsrl hsrl
    rw [beq_self_eq_true] at this; exact this
  obtain ⟨wz, hwz⟩ : ∃ c, Zn.wher l0 P l2 = c := ⟨_, rfl⟩
  obtain ⟨ez, hez⟩ : ∃ c, Zn.exi l0 P l2 = c := ⟨_, rfl⟩
  obtain ⟨nz, hnz⟩ : ∃ c, Zn.encl l0 P l2 = c := ⟨_, rfl⟩
  have hnzl : nz.length ≤ 1000 := by rw [← hnz]; exact Nat.le_trans (Zn.encl_len _ _ _) (by omega)
  have HW1 : Hid (∀ W', Below wh.heap.size wh W' → Calls Tryz.prog 21 #[.agg #[.slice oo l0.length co, .slice o6 c6n c6], .slice on l2.length cn] W' (Gives (.int .i64 wz) W')) := fun W' hW => by
    have hw := below5 HBH.out hW
    have h := zWhere_any (w0 := W') _ _ _ lz l0 l2 (below5 HB68.out hw) (HRZ.out W' hw) hzn (HOW.out W' hw) NBO.out (HNW.out W' hw) NBN.out
    rw [HPZ.out, hwz] at h; exact h
  have HW2 : Hid (∀ W', Below wh.heap.size wh W' → Calls Tryz.prog 22 #[.agg #[.slice oo l0.length co, .slice o8 c8n c8], .slice on l2.length cn] W' (Gives (.int .i64 wz) W')) := fun W' hW => by
    have hw := below5 HBH.out hW
    have h := rWhere_any (w0 := W') _ _ _ l8 l0 l2 (below5 HB68.out hw) (HRX.out W' hw) hxn (HOW.out W' hw) NBO.out (HNW.out W' hw) NBN.out
    rw [HP8.out, hwz] at h; exact h
  have HX1 : Hid (∀ W', Below wh.heap.size wh W' → Calls Tryz.prog 23 #[.agg #[.slice oo l0.length co, .slice o6 c6n c6], .slice on l2.length cn] W' (Gives (.bool ez) W')) := fun W' hW => by
    have hw := below5 HBH.out hW
    have h := zExists_any (w0 := W') _ _ _ lz l0 l2 (below5 HB68.out hw) (HRZ.out W' hw) hzn (HOW.out W' hw) NBO.out (HNW.out W' hw) NBN.out
    rw [HPZ.out, hez] at h; exact h
  have HX2 : Hid (∀ W', Below wh.heap.size wh W' → Calls Tryz.prog 24 #[.agg #[.slice oo l0.length co, .slice o8 c8n c8], .slice on l2.length cn] W' (Gives (.bool ez) W')) := fun W' hW => by
    have hw := below5 HBH.out hW
    have h := rExists_any (w0 := W') _ _ _ l8 l0 l2 (below5 HB68.out hw) (HRX.out W' hw) hxn (HOW.out W' hw) NBO.out (HNW.out W' hw) NBN.out
    rw [HP8.out, hez] at h; exact h
  have HE1 : Hid (∀ W', Below wh.heap.size wh W' → Calls Tryz.prog 25 #[.agg #[.slice oo l0.length co, .slice o6 c6n c6], .slice on l2.length cn] W' (RdOf nz W')) := fun W' hW => by
    have hw := below5 HBH.out hW
    have h := zEncloser_any (w0 := W') _ _ _ lz l0 l2 (below5 HB68.out hw) (HRZ.out W' hw) hzn (HOW.out W' hw) NBO.out (HNW.out W' hw) NBN.out
    rw [HPZ.out, hnz] at h; exact h
  have HE2 : Hid (∀ W', Below wh.heap.size wh W' → Calls Tryz.prog 26 #[.agg #[.slice oo l0.length co, .slice o8 c8n c8], .slice on l2.length cn] W' (RdOf nz W')) := fun W' hW => by
    have hw := below5 HBH.out hW
    have h := rEncloser_any (w0 := W') _ _ _ l8 l0 l2 (below5 HB68.out hw) (HRX.out W' hw) hxn (HOW.out W' hw) NBO.out (HNW.out W' hw) NBN.out
    rw [HP8.out, hnz] at h; exact h
  obtain ⟨gd, hgd⟩ : ∃ g, Zn.glueT P l2 2 = g := ⟨_, rfl⟩
  obtain ⟨gdf, gdl⟩ := glue_df P l2 hPD
  rw [hgd] at gdf gdl
  have HGDF := Lib.hid gdf
  have hgd1 : gd.length ≤ 1000 := by omega
  have HGL1 : Hid (∀ W', Below wh.heap.size wh W' → Calls Tryz.prog 28 #[.agg #[.slice oo l0.length co, .slice o6 c6n c6], .slice on l2.length cn] W' fun e w' => ∃ o c, ∃ d : List (El w6), e = .returned (.slice o d.length c) ∧ DatsRd (.slice o d.length c) d w' ∧ plE d = gd ∧ Below W'.heap.size W' w') := fun W' hW => by
    have hw := below5 HBH.out hW
    have h := zGlue_any (w0 := W') (.slice oo l0.length co) _ _ lz l2 (below5 HB68.out hw) (HRZ.out W' hw) hzn (HNW.out W' hw) NBN.out
    rw [HPZ.out, hgd] at h; exact h
  have HGL2 : Hid (∀ W', Below wh.heap.size wh W' → Calls Tryz.prog 29 #[.agg #[.slice oo l0.length co, .slice o8 c8n c8], .slice on l2.length cn] W' fun e w' => ∃ o c, ∃ d : List (El w6), e = .returned (.slice o d.length c) ∧ DatsRd (.slice o d.length c) d w' ∧ plE d = gd ∧ Below W'.heap.size W' w') := fun W' hW => by
    have hw := below5 HBH.out hW
    have h := rGlue_any (w0 := W') _ _ _ l8 l0 l2 (below5 HB68.out hw) (HRX.out W' hw) hxn (HOW.out W' hw) (HNW.out W' hw) NBN.out
    refine h.mono ?_
    rintro e w' ⟨o, c, d, e1, e2, e3, e4⟩
    rw [HP8.out, hgd] at e3
    exact ⟨o, c, d, e1, e2, e3, e4⟩
  clear hct hic hsr his hwz hez hnz hgd gdf
  have hicb : (ic == ic) = true := by simp
  have hwzb : (wz == wz) = true := by simp
  have hezb : (ez == ez) = true := by simp
  cases is with
  | true =>
    gi_wp2_with fail
    refine drawnH (List.range 59) (Cs [(⟨bz, 0, none⟩, Value.slice oo l0.length co), (⟨bz, 1, none⟩, .slice o6 c6n c6), (⟨bx, 0, none⟩, .slice oo l0.length co), (⟨bx, 1, none⟩, .slice o8 c8n c8)]) 59 rfl (by kernel_rfl) ?_
    intro k0 hk0
    have HK0 : Hid (Below wh.heap.size wh k0) := by subst hk0; exact (Below.refl _ _).drew
    have hS := HCS.out k0 (below5 HBH.out HK0.out)
    clear hk0
    refine takeH 0 (v := ?rav0) (fun _ => trivial) (by rfl) (by kernel_rfl) hS (.inl ⟨by kernel_rfl, fun w1 ⟨z0, z1, x0, x1, _⟩ => ?ray0⟩) ?_
    case ray0 => (go_simp; try first | rfl | (rw [if_pos (by omega)]) | (rw [if_neg (by omega)]) | (rw [if_neg (by simp; omega)]) | (split <;> first | (exfalso; omega) | rfl))
    refine takeH 1 (v := ?rav1) (fun _ => trivial) (by rfl) (by kernel_rfl) hS (.inl ⟨by kernel_rfl, fun w1 ⟨z0, z1, x0, x1, _⟩ => ?ray1⟩) ?_
    case ray1 => (go_simp; try first | rfl | (rw [if_pos (by omega)]) | (rw [if_neg (by omega)]) | (rw [if_neg (by simp; omega)]) | (split <;> first | (exfalso; omega) | rfl))
    refine takeH 2 (v := ?rav2) (fun _ => trivial) (by rfl) (by kernel_rfl) hS (.inl ⟨by kernel_rfl, fun w1 ⟨z0, z1, x0, x1, _⟩ => ?ray2⟩) ?_
    case ray2 => (go_simp; try first | rfl | (rw [if_pos (by omega)]) | (rw [if_neg (by omega)]) | (rw [if_neg (by simp; omega)]) | (split <;> first | (exfalso; omega) | rfl))
    refine takeH 3 (v := ?rav3) (fun _ => trivial) (by rfl) (by kernel_rfl) hS (.inl ⟨by kernel_rfl, fun w1 ⟨z0, z1, x0, x1, _⟩ => ?ray3⟩) ?_
    case ray3 => (go_simp; try first | rfl | (rw [if_pos (by omega)]) | (rw [if_neg (by omega)]) | (rw [if_neg (by simp; omega)]) | (split <;> first | (exfalso; omega) | rfl))
    refine takeH 4 (v := ?rav4) (fun _ => trivial) (by rfl) (by kernel_rfl) hS (.inl ⟨by kernel_rfl, fun w1 ⟨z0, z1, x0, x1, _⟩ => ?ray4⟩) ?_
    case ray4 => (go_simp; try first | rfl | (rw [if_pos (by omega)]) | (rw [if_neg (by omega)]) | (rw [if_neg (by simp; omega)]) | (split <;> first | (exfalso; omega) | rfl))
    refine takeH 5 (v := ?rav5) (fun _ => trivial) (by rfl) (by kernel_rfl) hS (.inl ⟨by kernel_rfl, fun w1 ⟨z0, z1, x0, x1, _⟩ => ?ray5⟩) ?_
    case ray5 => (go_simp; try first | rfl | (rw [if_pos (by omega)]) | (rw [if_neg (by omega)]) | (rw [if_neg (by simp; omega)]) | (split <;> first | (exfalso; omega) | rfl))
    simp only [Act.put, List.setIfInBounds_toArray, List.set_cons_succ, List.set_cons_zero]
    refine oneH 6 (by rfl) (by kernel_rfl) (fun K hK => ?_)
    gi_wp2_with (gi_at_call 15; refine (callsIn_wide.2 (HISA.out k0 HK0.out)).mono ?_; rintro e9 k1 ⟨rfl, b9⟩)
    have HK1 := Lib.hid (below5 HK0.out b9)
    replace hS := HCS.out k1 (below5 HBH.out HK1.out)
    refine hK _ _ (fun _ => hS) ?_
    clear hK K b9
    refine takeH 7 (v := ?rbv7) (fun _ => trivial) (by rfl) (by kernel_rfl) hS (.inl ⟨by kernel_rfl, fun w1 ⟨z0, z1, x0, x1, _⟩ => ?rby7⟩) ?_
    case rby7 => (go_simp; try first | rfl | (rw [if_pos (by omega)]) | (rw [if_neg (by omega)]) | (rw [if_neg (by simp; omega)]) | (split <;> first | (exfalso; omega) | rfl))
    refine takeH 8 (v := ?rbv8) (fun _ => trivial) (by rfl) (by kernel_rfl) hS (.inl ⟨by kernel_rfl, fun w1 ⟨z0, z1, x0, x1, _⟩ => ?rby8⟩) ?_
    case rby8 => (go_simp; try first | rfl | (rw [if_pos (by omega)]) | (rw [if_neg (by omega)]) | (rw [if_neg (by simp; omega)]) | (split <;> first | (exfalso; omega) | rfl))
    refine takeH 9 (v := ?rbv9) (fun _ => trivial) (by rfl) (by kernel_rfl) hS (.inl ⟨by kernel_rfl, fun w1 ⟨z0, z1, x0, x1, _⟩ => ?rby9⟩) ?_
    case rby9 => (go_simp; try first | rfl | (rw [if_pos (by omega)]) | (rw [if_neg (by omega)]) | (rw [if_neg (by simp; omega)]) | (split <;> first | (exfalso; omega) | rfl))
    refine takeH 10 (v := ?rbv10) (fun _ => trivial) (by rfl) (by kernel_rfl) hS (.inl ⟨by kernel_rfl, fun w1 ⟨z0, z1, x0, x1, _⟩ => ?rby10⟩) ?_
    case rby10 => (go_simp; try first | rfl | (rw [if_pos (by omega)]) | (rw [if_neg (by omega)]) | (rw [if_neg (by simp; omega)]) | (split <;> first | (exfalso; omega) | rfl))
    refine takeH 12 (v := ?rbv12) (fun _ => trivial) (by rfl) (by kernel_rfl) hS (.inl ⟨by kernel_rfl, fun w1 ⟨z0, z1, x0, x1, _⟩ => ?rby12⟩) ?_
    case rby12 => (go_simp; try first | rfl | (rw [if_pos (by omega)]) | (rw [if_neg (by omega)]) | (rw [if_neg (by simp; omega)]) | (split <;> first | (exfalso; omega) | rfl))
    refine takeH 13 (v := ?rbv13) (fun _ => trivial) (by rfl) (by kernel_rfl) hS (.inl ⟨by kernel_rfl, fun w1 ⟨z0, z1, x0, x1, _⟩ => ?rby13⟩) ?_
    case rby13 => (go_simp; try first | rfl | (rw [if_pos (by omega)]) | (rw [if_neg (by omega)]) | (rw [if_neg (by simp; omega)]) | (split <;> first | (exfalso; omega) | rfl))
    simp only [Act.put, List.setIfInBounds_toArray, List.set_cons_succ, List.set_cons_zero]
    refine oneH 11 (by rfl) (by kernel_rfl) (fun K hK => ?_)
    gi_wp2_with (gi_at_call 21; refine (callsIn_wide.2 (HW1.out k1 HK1.out)).mono ?_; rintro e9 k2 ⟨rfl, b9⟩)
    have HK2 := Lib.hid (below5 HK1.out b9)
    replace hS := HCS.out k2 (below5 HBH.out HK2.out)
    refine hK _ _ (fun _ => hS) ?_
    clear hK K b9
    refine oneH 14 (by rfl) (by kernel_rfl) (fun K hK => ?_)
    gi_wp2_with (gi_at_call 22; refine (callsIn_wide.2 (HW2.out k2 HK2.out)).mono ?_; rintro e9 k3 ⟨rfl, b9⟩)
    have HK3 := Lib.hid (below5 HK2.out b9)
    replace hS := HCS.out k3 (below5 HBH.out HK3.out)
    refine hK _ _ (fun _ => hS) ?_
    clear hK K b9
    refine takeH 15 (v := ?rcv15) (fun _ => trivial) (by rfl) (by kernel_rfl) hS (.inl ⟨by kernel_rfl, fun w1 ⟨z0, z1, x0, x1, _⟩ => ?rcy15⟩) ?_
    case rcy15 => (go_simp; try first | rfl | (rw [if_pos (by omega)]) | (rw [if_neg (by omega)]) | (rw [if_neg (by simp; omega)]) | (split <;> first | (exfalso; omega) | rfl))
    refine takeH 16 (v := ?rcv16) (fun _ => trivial) (by rfl) (by kernel_rfl) hS (.inl ⟨by kernel_rfl, fun w1 ⟨z0, z1, x0, x1, _⟩ => ?rcy16⟩) ?_
    case rcy16 => (go_simp; try first | rfl | (rw [if_pos (by omega)]) | (rw [if_neg (by omega)]) | (rw [if_neg (by simp; omega)]) | (split <;> first | (exfalso; omega) | rfl))
    refine takeH 17 (v := ?rcv17) (fun _ => trivial) (by rfl) (by kernel_rfl) hS (.inl ⟨by kernel_rfl, fun w1 ⟨z0, z1, x0, x1, _⟩ => ?rcy17⟩) ?_
    case rcy17 => (go_simp; try first | rfl | (rw [if_pos (by omega)]) | (rw [if_neg (by omega)]) | (rw [if_neg (by simp; omega)]) | (split <;> first | (exfalso; omega) | rfl))
    refine takeH 18 (v := ?rcv18) (fun _ => trivial) (by rfl) (by kernel_rfl) hS (.inl ⟨by kernel_rfl, fun w1 ⟨z0, z1, x0, x1, _⟩ => ?rcy18⟩) ?_
    case rcy18 => (go_simp; try first | rfl | (rw [if_pos (by omega)]) | (rw [if_neg (by omega)]) | (rw [if_neg (by simp; omega)]) | (split <;> first | (exfalso; omega) | rfl))
    refine takeH 19 (v := ?rcv19) (fun _ => trivial) (by rfl) (by kernel_rfl) hS (.inl ⟨by kernel_rfl, fun w1 ⟨z0, z1, x0, x1, _⟩ => ?rcy19⟩) ?_
    case rcy19 => (go_simp; try first | rfl | (rw [if_pos (by omega)]) | (rw [if_neg (by omega)]) | (rw [if_neg (by simp; omega)]) | (split <;> first | (exfalso; omega) | rfl))
    refine takeH 21 (v := ?rcv21) (fun _ => trivial) (by rfl) (by kernel_rfl) hS (.inl ⟨by kernel_rfl, fun w1 ⟨z0, z1, x0, x1, _⟩ => ?rcy21⟩) ?_
    case rcy21 => (go_simp; try first | rfl | (rw [if_pos (by omega)]) | (rw [if_neg (by omega)]) | (rw [if_neg (by simp; omega)]) | (split <;> first | (exfalso; omega) | rfl))
    refine takeH 22 (v := ?rcv22) (fun _ => trivial) (by rfl) (by kernel_rfl) hS (.inl ⟨by kernel_rfl, fun w1 ⟨z0, z1, x0, x1, _⟩ => ?rcy22⟩) ?_
    case rcy22 => (go_simp; try first | rfl | (rw [if_pos (by omega)]) | (rw [if_neg (by omega)]) | (rw [if_neg (by simp; omega)]) | (split <;> first | (exfalso; omega) | rfl))
    simp only [Act.put, List.setIfInBounds_toArray, List.set_cons_succ, List.set_cons_zero]
    refine oneH 20 (by rfl) (by kernel_rfl) (fun K hK => ?_)
    gi_wp2_with (gi_at_call 23; refine (callsIn_wide.2 (HX1.out k3 HK3.out)).mono ?_; rintro e9 k4 ⟨rfl, b9⟩)
    have HK4 := Lib.hid (below5 HK3.out b9)
    replace hS := HCS.out k4 (below5 HBH.out HK4.out)
    refine hK _ _ (fun _ => hS) ?_
    clear hK K b9
    refine oneH 23 (by rfl) (by kernel_rfl) (fun K hK => ?_)
    gi_wp2_with (gi_at_call 24; refine (callsIn_wide.2 (HX2.out k4 HK4.out)).mono ?_; rintro e9 k5 ⟨rfl, b9⟩)
    have HK5 := Lib.hid (below5 HK4.out b9)
    replace hS := HCS.out k5 (below5 HBH.out HK5.out)
    refine hK _ _ (fun _ => hS) ?_
    clear hK K b9
    refine takeH 24 (v := ?rdv24) (fun _ => trivial) (by rfl) (by kernel_rfl) hS (.inl ⟨by kernel_rfl, fun w1 ⟨z0, z1, x0, x1, _⟩ => ?rdy24⟩) ?_
    case rdy24 => (go_simp; try first | rfl | (rw [if_pos (by omega)]) | (rw [if_neg (by omega)]) | (rw [if_neg (by simp; omega)]) | (split <;> first | (exfalso; omega) | rfl))
    refine takeH 25 (v := ?rdv25) (fun _ => trivial) (by rfl) (by kernel_rfl) hS (.inl ⟨by kernel_rfl, fun w1 ⟨z0, z1, x0, x1, _⟩ => ?rdy25⟩) ?_
    case rdy25 => (go_simp; try first | rfl | (rw [if_pos (by omega)]) | (rw [if_neg (by omega)]) | (rw [if_neg (by simp; omega)]) | (split <;> first | (exfalso; omega) | rfl))
    refine takeH 26 (v := ?rdv26) (fun _ => trivial) (by rfl) (by kernel_rfl) hS (.inl ⟨by kernel_rfl, fun w1 ⟨z0, z1, x0, x1, _⟩ => ?rdy26⟩) ?_
    case rdy26 => (go_simp; try first | rfl | (rw [if_pos (by omega)]) | (rw [if_neg (by omega)]) | (rw [if_neg (by simp; omega)]) | (split <;> first | (exfalso; omega) | rfl))
    refine takeH 27 (v := ?rdv27) (fun _ => trivial) (by rfl) (by kernel_rfl) hS (.inl ⟨by kernel_rfl, fun w1 ⟨z0, z1, x0, x1, _⟩ => ?rdy27⟩) ?_
    case rdy27 => (go_simp; try first | rfl | (rw [if_pos (by omega)]) | (rw [if_neg (by omega)]) | (rw [if_neg (by simp; omega)]) | (split <;> first | (exfalso; omega) | rfl))
    refine takeH 28 (v := ?rdv28) (fun _ => trivial) (by rfl) (by kernel_rfl) hS (.inl ⟨by kernel_rfl, fun w1 ⟨z0, z1, x0, x1, _⟩ => ?rdy28⟩) ?_
    case rdy28 => (go_simp; try first | rfl | (rw [if_pos (by omega)]) | (rw [if_neg (by omega)]) | (rw [if_neg (by simp; omega)]) | (split <;> first | (exfalso; omega) | rfl))
    refine takeH 30 (v := ?rdv30) (fun _ => trivial) (by rfl) (by kernel_rfl) hS (.inl ⟨by kernel_rfl, fun w1 ⟨z0, z1, x0, x1, _⟩ => ?rdy30⟩) ?_
    case rdy30 => (go_simp; try first | rfl | (rw [if_pos (by omega)]) | (rw [if_neg (by omega)]) | (rw [if_neg (by simp; omega)]) | (split <;> first | (exfalso; omega) | rfl))
    refine takeH 31 (v := ?rdv31) (fun _ => trivial) (by rfl) (by kernel_rfl) hS (.inl ⟨by kernel_rfl, fun w1 ⟨z0, z1, x0, x1, _⟩ => ?rdy31⟩) ?_
    case rdy31 => (go_simp; try first | rfl | (rw [if_pos (by omega)]) | (rw [if_neg (by omega)]) | (rw [if_neg (by simp; omega)]) | (split <;> first | (exfalso; omega) | rfl))
    simp only [Act.put, List.setIfInBounds_toArray, List.set_cons_succ, List.set_cons_zero]
    refine oneH 29 (by rfl) (by kernel_rfl) (fun K hK => ?_)
    gi_wp2_with (gi_at_call 25; refine (callsIn_wide.2 (HE1.out k5 HK5.out)).mono ?_; rintro e9 k6 ⟨vp, rfl, rp, b9⟩)
    have HK6 := Lib.hid (below5 HK5.out b9)
    obtain ⟨op, cp, rfl, _, _⟩ := rp.form
    have HRP := Lib.hid rp
    replace hS := HCS.out k6 (below5 HBH.out HK6.out)
    refine hK _ _ (fun _ => hS) ?_
    clear hK K b9
    clear rp
    refine oneH 32 (by rfl) (by kernel_rfl) (fun K hK => ?_)
    gi_wp2_with (gi_at_call 26; refine (callsIn_wide.2 (HE2.out k6 HK6.out)).mono ?_; rintro e9 k7 ⟨vq2, rfl, rq2, b9⟩)
    have HK7 := Lib.hid (below5 HK6.out b9)
    obtain ⟨oq, cq, rfl, _, _⟩ := rq2.form
    have HIE := Lib.hid (isLen_any _ _ nz nz k7 (HRP.out.below b9) rq2 hnzl hnzl)
    rw [beq_self_eq_true] at HIE
    replace hS := HCS.out k7 (below5 HBH.out HK7.out)
    refine hK _ _ (fun _ => hS) ?_
    clear hK K b9
    clear rq2
    refine oneH 33 (by rfl) (by kernel_rfl) (fun K hK => ?_)
    gi_wp2_with (gi_at_call 15; refine (callsIn_wide.2 HIE.out).mono ?_; rintro e9 k8 ⟨rfl, b9⟩)
    have HK8 := Lib.hid (below5 HK7.out b9)
    replace hS := HCS.out k8 (below5 HBH.out HK8.out)
    refine hK _ _ (fun _ => hS) ?_
    clear hK K b9
    refine takeH 34 (v := ?rev34) (fun _ => trivial) (by rfl) (by kernel_rfl) hS (.inl ⟨by kernel_rfl, fun w1 ⟨z0, z1, x0, x1, _⟩ => ?rey34⟩) ?_
    case rey34 => (go_simp; try first | rfl | (rw [if_pos (by omega)]) | (rw [if_neg (by omega)]) | (rw [if_neg (by simp; omega)]) | (split <;> first | (exfalso; omega) | rfl))
    refine takeH 35 (v := ?rev35) (fun _ => trivial) (by rfl) (by kernel_rfl) hS (.inl ⟨by kernel_rfl, fun w1 ⟨z0, z1, x0, x1, _⟩ => ?rey35⟩) ?_
    case rey35 => (go_simp; try first | rfl | (rw [if_pos (by omega)]) | (rw [if_neg (by omega)]) | (rw [if_neg (by simp; omega)]) | (split <;> first | (exfalso; omega) | rfl))
    refine takeH 36 (v := ?rev36) (fun _ => trivial) (by rfl) (by kernel_rfl) hS (.inl ⟨by kernel_rfl, fun w1 ⟨z0, z1, x0, x1, _⟩ => ?rey36⟩) ?_
    case rey36 => (go_simp; try first | rfl | (rw [if_pos (by omega)]) | (rw [if_neg (by omega)]) | (rw [if_neg (by simp; omega)]) | (split <;> first | (exfalso; omega) | rfl))
    refine takeH 37 (v := ?rev37) (fun _ => trivial) (by rfl) (by kernel_rfl) hS (.inl ⟨by kernel_rfl, fun w1 ⟨z0, z1, x0, x1, _⟩ => ?rey37⟩) ?_
    case rey37 => (go_simp; try first | rfl | (rw [if_pos (by omega)]) | (rw [if_neg (by omega)]) | (rw [if_neg (by simp; omega)]) | (split <;> first | (exfalso; omega) | rfl))
    refine takeH 38 (v := ?rev38) (fun _ => trivial) (by rfl) (by kernel_rfl) hS (.inl ⟨by kernel_rfl, fun w1 ⟨z0, z1, x0, x1, _⟩ => ?rey38⟩) ?_
    case rey38 => (go_simp; try first | rfl | (rw [if_pos (by omega)]) | (rw [if_neg (by omega)]) | (rw [if_neg (by simp; omega)]) | (split <;> first | (exfalso; omega) | rfl))
    refine takeH 39 (v := ?rev39) (fun _ => trivial) (by rfl) (by kernel_rfl) hS (.inl ⟨by kernel_rfl, fun w1 ⟨z0, z1, x0, x1, _⟩ => ?rey39⟩) ?_
    case rey39 => (go_simp; try first | rfl | (rw [if_pos (by omega)]) | (rw [if_neg (by omega)]) | (rw [if_neg (by simp; omega)]) | (split <;> first | (exfalso; omega) | rfl))
    refine takeH 40 (v := ?rev40) (fun _ => trivial) (by rfl) (by kernel_rfl) hS (.inl ⟨by kernel_rfl, fun w1 ⟨z0, z1, x0, x1, _⟩ => ?rey40⟩) ?_
    case rey40 => (go_simp; try first | rfl | (rw [if_pos (by omega)]) | (rw [if_neg (by omega)]) | (rw [if_neg (by simp; omega)]) | (split <;> first | (exfalso; omega) | rfl))
    refine takeH 41 (v := ?rev41) (fun _ => trivial) (by rfl) (by kernel_rfl) hS (.inl ⟨by kernel_rfl, fun w1 ⟨z0, z1, x0, x1, _⟩ => ?rey41⟩) ?_
    case rey41 => (go_simp; try first | rfl | (rw [if_pos (by omega)]) | (rw [if_neg (by omega)]) | (rw [if_neg (by simp; omega)]) | (split <;> first | (exfalso; omega) | rfl))
    refine takeH 42 (v := ?rev42) (fun _ => trivial) (by rfl) (by kernel_rfl) hS (.inl ⟨by kernel_rfl, fun w1 ⟨z0, z1, x0, x1, _⟩ => ?rey42⟩) ?_
    case rey42 => (go_simp; try first | rfl | (rw [if_pos (by omega)]) | (rw [if_neg (by omega)]) | (rw [if_neg (by simp; omega)]) | (split <;> first | (exfalso; omega) | rfl))
    refine takeH 43 (v := ?rev43) (fun _ => trivial) (by rfl) (by kernel_rfl) hS (.inl ⟨by kernel_rfl, fun w1 ⟨z0, z1, x0, x1, _⟩ => ?rey43⟩) ?_
    case rey43 => (go_simp; try first | rfl | (rw [if_pos (by omega)]) | (rw [if_neg (by omega)]) | (rw [if_neg (by simp; omega)]) | (split <;> first | (exfalso; omega) | rfl))
    refine takeH 44 (v := ?rev44) (fun _ => trivial) (by rfl) (by kernel_rfl) hS (.inl ⟨by kernel_rfl, fun w1 ⟨z0, z1, x0, x1, _⟩ => ?rey44⟩) ?_
    case rey44 => (go_simp; try first | rfl | (rw [if_pos (by omega)]) | (rw [if_neg (by omega)]) | (rw [if_neg (by simp; omega)]) | (split <;> first | (exfalso; omega) | rfl))
    refine takeH 45 (v := ?rev45) (fun _ => trivial) (by rfl) (by kernel_rfl) hS (.inl ⟨by kernel_rfl, fun w1 ⟨z0, z1, x0, x1, _⟩ => ?rey45⟩) ?_
    case rey45 => (go_simp; try first | rfl | (rw [if_pos (by omega)]) | (rw [if_neg (by omega)]) | (rw [if_neg (by simp; omega)]) | (split <;> first | (exfalso; omega) | rfl))
    simp only [Act.put, List.setIfInBounds_toArray, List.set_cons_succ, List.set_cons_zero]
    refine oneH 46 (by rfl) (by kernel_rfl) (fun K hK => ?_)
    gi_wp2_with (gi_at_call 15; refine (callsIn_wide.2 (HISC.out k8 HK8.out)).mono ?_; rintro e9 k9 ⟨rfl, b9⟩)
    have HK9 := Lib.hid (below5 HK8.out b9)
    replace hS := HCS.out k9 (below5 HBH.out HK9.out)
    refine hK _ _ (fun _ => hS) ?_
    clear hK K b9
    refine takeH 47 (v := ?rfv47) (fun _ => trivial) (by rfl) (by kernel_rfl) hS (.inl ⟨by kernel_rfl, fun w1 ⟨z0, z1, x0, x1, _⟩ => ?rfy47⟩) ?_
    case rfy47 => (go_simp; try first | rfl | (rw [if_pos (by omega)]) | (rw [if_neg (by omega)]) | (rw [if_neg (by simp; omega)]) | (split <;> first | (exfalso; omega) | rfl))
    refine takeH 48 (v := ?rfv48) (fun _ => trivial) (by rfl) (by kernel_rfl) hS (.inl ⟨by kernel_rfl, fun w1 ⟨z0, z1, x0, x1, _⟩ => ?rfy48⟩) ?_
    case rfy48 => (go_simp; try first | rfl | (rw [if_pos (by omega)]) | (rw [if_neg (by omega)]) | (rw [if_neg (by simp; omega)]) | (split <;> first | (exfalso; omega) | rfl))
    refine takeH 49 (v := ?rfv49) (fun _ => trivial) (by rfl) (by kernel_rfl) hS (.inl ⟨by kernel_rfl, fun w1 ⟨z0, z1, x0, x1, _⟩ => ?rfy49⟩) ?_
    case rfy49 => (go_simp; try first | rfl | (rw [if_pos (by omega)]) | (rw [if_neg (by omega)]) | (rw [if_neg (by simp; omega)]) | (split <;> first | (exfalso; omega) | rfl))
    refine takeH 50 (v := ?rfv50) (fun _ => trivial) (by rfl) (by kernel_rfl) hS (.inl ⟨by kernel_rfl, fun w1 ⟨z0, z1, x0, x1, _⟩ => ?rfy50⟩) ?_
    case rfy50 => (go_simp; try first | rfl | (rw [if_pos (by omega)]) | (rw [if_neg (by omega)]) | (rw [if_neg (by simp; omega)]) | (split <;> first | (exfalso; omega) | rfl))
    refine takeH 51 (v := ?rfv51) (fun _ => trivial) (by rfl) (by kernel_rfl) hS (.inl ⟨by kernel_rfl, fun w1 ⟨z0, z1, x0, x1, _⟩ => ?rfy51⟩) ?_
    case rfy51 => (go_simp; try first | rfl | (rw [if_pos (by omega)]) | (rw [if_neg (by omega)]) | (rw [if_neg (by simp; omega)]) | (split <;> first | (exfalso; omega) | rfl))
    refine takeH 53 (v := ?rfv53) (fun _ => trivial) (by rfl) (by kernel_rfl) hS (.inl ⟨by kernel_rfl, fun w1 ⟨z0, z1, x0, x1, _⟩ => ?rfy53⟩) ?_
    case rfy53 => (go_simp; try first | rfl | (rw [if_pos (by omega)]) | (rw [if_neg (by omega)]) | (rw [if_neg (by simp; omega)]) | (split <;> first | (exfalso; omega) | rfl))
    refine takeH 54 (v := ?rfv54) (fun _ => trivial) (by rfl) (by kernel_rfl) hS (.inl ⟨by kernel_rfl, fun w1 ⟨z0, z1, x0, x1, _⟩ => ?rfy54⟩) ?_
    case rfy54 => (go_simp; try first | rfl | (rw [if_pos (by omega)]) | (rw [if_neg (by omega)]) | (rw [if_neg (by simp; omega)]) | (split <;> first | (exfalso; omega) | rfl))
    simp only [Act.put, List.setIfInBounds_toArray, List.set_cons_succ, List.set_cons_zero]
    refine oneH 52 (by rfl) (by kernel_rfl) (fun K hK => ?_)
    gi_wp2_with (gi_at_call 28; refine (callsIn_wide.2 (HGL1.out k9 HK9.out)).mono ?_; rintro e9 k10 ⟨og, cg, d1, rfl, g1, g2, b9⟩)
    have HK10 := Lib.hid (below5 HK9.out b9)
    have HG1 := Lib.hid g1
    have HG2 := Lib.hid g2
    replace hS := HCS.out k10 (below5 HBH.out HK10.out)
    refine hK _ _ (fun _ => hS) ?_
    clear hK K b9
    clear g1 g2
    refine oneH 55 (by rfl) (by kernel_rfl) (fun K hK => ?_)
    gi_wp2_with (gi_at_call 29; refine (callsIn_wide.2 (HGL2.out k10 HK10.out)).mono ?_; rintro e9 k11 ⟨ox, cx, d2, rfl, g1, g2, b9⟩)
    have HK11 := Lib.hid (below5 HK10.out b9)
    have hdl : d2.length = d1.length := by have h1 := congrArg List.length g2; have h2 := congrArg List.length HG2.out; rw [plE_len] at h1 h2; omega
    rw [hdl] at g1 ⊢
    have HIA := Lib.hid (isAll_any (w0 := k11) (.slice og d1.length cg) (.slice ox d1.length cx) d1 d2 (below5 HB68.out (below5 HBH.out HK11.out)) (HG1.out.below b9) g1 (by rw [HG2.out, g2]) (by have h2 := congrArg List.length HG2.out; rw [plE_len] at h2; omega) (fun x hx => HGDF.out _ (by rw [← HG2.out]; exact List.mem_map.2 ⟨x, hx, rfl⟩)))
    replace hS := HCS.out k11 (below5 HBH.out HK11.out)
    refine hK _ _ (fun _ => hS) ?_
    clear hK K b9
    clear g1 g2 hdl
    refine oneH 56 (by rfl) (by kernel_rfl) (fun K hK => ?_)
    gi_wp2_with (gi_at_call 27; refine (callsIn_wide.2 HIA.out).mono ?_; rintro e9 k12 ⟨rfl, b9⟩)
    have HK12 := Lib.hid (below5 HK11.out b9)
    replace hS := HCS.out k12 (below5 HBH.out HK12.out)
    refine hK _ _ (fun _ => hS) ?_
    clear hK K b9
    refine takeH 57 (v := ?rgv57) (fun _ => trivial) (by rfl) (by kernel_rfl) hS (.inl ⟨by kernel_rfl, fun w1 ⟨z0, z1, x0, x1, _⟩ => ?rgy57⟩) ?_
    case rgy57 => (go_simp; try first | rfl | (rw [if_pos (by omega)]) | (rw [if_neg (by omega)]) | (rw [if_neg (by simp; omega)]) | (split <;> first | (exfalso; omega) | rfl))
    simp only [Act.put, List.setIfInBounds_toArray, List.set_cons_succ, List.set_cons_zero]
    refine oneH 58 (by rfl) (by kernel_rfl) (fun K hK => ?_)
    gi_wp2_with fail
    refine hK _ _ (fun _ => hS) ?_
    clear hK K
    refine doneH (by kernel_rfl) ?_
    clear hS
    gi_wp2_with fail
    go_ret
    exact ⟨rfl, below5 HB8w.out (below5 HBH.out HK12.out)⟩
  | false =>
    gi_wp2_with fail
    refine drawnH (List.range 59) (Cs [(⟨bz, 0, none⟩, Value.slice oo l0.length co), (⟨bz, 1, none⟩, .slice o6 c6n c6), (⟨bx, 0, none⟩, .slice oo l0.length co), (⟨bx, 1, none⟩, .slice o8 c8n c8)]) 59 rfl (by kernel_rfl) ?_
    intro k0 hk0
    have HK0 : Hid (Below wh.heap.size wh k0) := by subst hk0; exact (Below.refl _ _).drew
    have hS := HCS.out k0 (below5 HBH.out HK0.out)
    clear hk0
    refine takeH 0 (v := ?sav0) (fun _ => trivial) (by rfl) (by kernel_rfl) hS (.inl ⟨by kernel_rfl, fun w1 ⟨z0, z1, x0, x1, _⟩ => ?say0⟩) ?_
    case say0 => (go_simp; try first | rfl | (rw [if_pos (by omega)]) | (rw [if_neg (by omega)]) | (rw [if_neg (by simp; omega)]) | (split <;> first | (exfalso; omega) | rfl))
    refine takeH 1 (v := ?sav1) (fun _ => trivial) (by rfl) (by kernel_rfl) hS (.inl ⟨by kernel_rfl, fun w1 ⟨z0, z1, x0, x1, _⟩ => ?say1⟩) ?_
    case say1 => (go_simp; try first | rfl | (rw [if_pos (by omega)]) | (rw [if_neg (by omega)]) | (rw [if_neg (by simp; omega)]) | (split <;> first | (exfalso; omega) | rfl))
    refine takeH 2 (v := ?sav2) (fun _ => trivial) (by rfl) (by kernel_rfl) hS (.inl ⟨by kernel_rfl, fun w1 ⟨z0, z1, x0, x1, _⟩ => ?say2⟩) ?_
    case say2 => (go_simp; try first | rfl | (rw [if_pos (by omega)]) | (rw [if_neg (by omega)]) | (rw [if_neg (by simp; omega)]) | (split <;> first | (exfalso; omega) | rfl))
    refine takeH 3 (v := ?sav3) (fun _ => trivial) (by rfl) (by kernel_rfl) hS (.inl ⟨by kernel_rfl, fun w1 ⟨z0, z1, x0, x1, _⟩ => ?say3⟩) ?_
    case say3 => (go_simp; try first | rfl | (rw [if_pos (by omega)]) | (rw [if_neg (by omega)]) | (rw [if_neg (by simp; omega)]) | (split <;> first | (exfalso; omega) | rfl))
    refine takeH 4 (v := ?sav4) (fun _ => trivial) (by rfl) (by kernel_rfl) hS (.inl ⟨by kernel_rfl, fun w1 ⟨z0, z1, x0, x1, _⟩ => ?say4⟩) ?_
    case say4 => (go_simp; try first | rfl | (rw [if_pos (by omega)]) | (rw [if_neg (by omega)]) | (rw [if_neg (by simp; omega)]) | (split <;> first | (exfalso; omega) | rfl))
    refine takeH 5 (v := ?sav5) (fun _ => trivial) (by rfl) (by kernel_rfl) hS (.inl ⟨by kernel_rfl, fun w1 ⟨z0, z1, x0, x1, _⟩ => ?say5⟩) ?_
    case say5 => (go_simp; try first | rfl | (rw [if_pos (by omega)]) | (rw [if_neg (by omega)]) | (rw [if_neg (by simp; omega)]) | (split <;> first | (exfalso; omega) | rfl))
    simp only [Act.put, List.setIfInBounds_toArray, List.set_cons_succ, List.set_cons_zero]
    refine oneH 6 (by rfl) (by kernel_rfl) (fun K hK => ?_)
    gi_wp2_with (gi_at_call 15; refine (callsIn_wide.2 (HISA.out k0 HK0.out)).mono ?_; rintro e9 k1 ⟨rfl, b9⟩)
    have HK1 := Lib.hid (below5 HK0.out b9)
    replace hS := HCS.out k1 (below5 HBH.out HK1.out)
    refine hK _ _ (fun _ => hS) ?_
    clear hK K b9
    refine takeH 7 (v := ?sbv7) (fun _ => trivial) (by rfl) (by kernel_rfl) hS (.inl ⟨by kernel_rfl, fun w1 ⟨z0, z1, x0, x1, _⟩ => ?sby7⟩) ?_
    case sby7 => (go_simp; try first | rfl | (rw [if_pos (by omega)]) | (rw [if_neg (by omega)]) | (rw [if_neg (by simp; omega)]) | (split <;> first | (exfalso; omega) | rfl))
    refine takeH 8 (v := ?sbv8) (fun _ => trivial) (by rfl) (by kernel_rfl) hS (.inl ⟨by kernel_rfl, fun w1 ⟨z0, z1, x0, x1, _⟩ => ?sby8⟩) ?_
    case sby8 => (go_simp; try first | rfl | (rw [if_pos (by omega)]) | (rw [if_neg (by omega)]) | (rw [if_neg (by simp; omega)]) | (split <;> first | (exfalso; omega) | rfl))
    refine takeH 9 (v := ?sbv9) (fun _ => trivial) (by rfl) (by kernel_rfl) hS (.inl ⟨by kernel_rfl, fun w1 ⟨z0, z1, x0, x1, _⟩ => ?sby9⟩) ?_
    case sby9 => (go_simp; try first | rfl | (rw [if_pos (by omega)]) | (rw [if_neg (by omega)]) | (rw [if_neg (by simp; omega)]) | (split <;> first | (exfalso; omega) | rfl))
    refine takeH 10 (v := ?sbv10) (fun _ => trivial) (by rfl) (by kernel_rfl) hS (.inl ⟨by kernel_rfl, fun w1 ⟨z0, z1, x0, x1, _⟩ => ?sby10⟩) ?_
    case sby10 => (go_simp; try first | rfl | (rw [if_pos (by omega)]) | (rw [if_neg (by omega)]) | (rw [if_neg (by simp; omega)]) | (split <;> first | (exfalso; omega) | rfl))
    refine takeH 12 (v := ?sbv12) (fun _ => trivial) (by rfl) (by kernel_rfl) hS (.inl ⟨by kernel_rfl, fun w1 ⟨z0, z1, x0, x1, _⟩ => ?sby12⟩) ?_
    case sby12 => (go_simp; try first | rfl | (rw [if_pos (by omega)]) | (rw [if_neg (by omega)]) | (rw [if_neg (by simp; omega)]) | (split <;> first | (exfalso; omega) | rfl))
    refine takeH 13 (v := ?sbv13) (fun _ => trivial) (by rfl) (by kernel_rfl) hS (.inl ⟨by kernel_rfl, fun w1 ⟨z0, z1, x0, x1, _⟩ => ?sby13⟩) ?_
    case sby13 => (go_simp; try first | rfl | (rw [if_pos (by omega)]) | (rw [if_neg (by omega)]) | (rw [if_neg (by simp; omega)]) | (split <;> first | (exfalso; omega) | rfl))
    simp only [Act.put, List.setIfInBounds_toArray, List.set_cons_succ, List.set_cons_zero]
    refine oneH 11 (by rfl) (by kernel_rfl) (fun K hK => ?_)
    gi_wp2_with (gi_at_call 21; refine (callsIn_wide.2 (HW1.out k1 HK1.out)).mono ?_; rintro e9 k2 ⟨rfl, b9⟩)
    have HK2 := Lib.hid (below5 HK1.out b9)
    replace hS := HCS.out k2 (below5 HBH.out HK2.out)
    refine hK _ _ (fun _ => hS) ?_
    clear hK K b9
    refine oneH 14 (by rfl) (by kernel_rfl) (fun K hK => ?_)
    gi_wp2_with (gi_at_call 22; refine (callsIn_wide.2 (HW2.out k2 HK2.out)).mono ?_; rintro e9 k3 ⟨rfl, b9⟩)
    have HK3 := Lib.hid (below5 HK2.out b9)
    replace hS := HCS.out k3 (below5 HBH.out HK3.out)
    refine hK _ _ (fun _ => hS) ?_
    clear hK K b9
    refine takeH 15 (v := ?scv15) (fun _ => trivial) (by rfl) (by kernel_rfl) hS (.inl ⟨by kernel_rfl, fun w1 ⟨z0, z1, x0, x1, _⟩ => ?scy15⟩) ?_
    case scy15 => (go_simp; try first | rfl | (rw [if_pos (by omega)]) | (rw [if_neg (by omega)]) | (rw [if_neg (by simp; omega)]) | (split <;> first | (exfalso; omega) | rfl))
    refine takeH 16 (v := ?scv16) (fun _ => trivial) (by rfl) (by kernel_rfl) hS (.inl ⟨by kernel_rfl, fun w1 ⟨z0, z1, x0, x1, _⟩ => ?scy16⟩) ?_
    case scy16 => (go_simp; try first | rfl | (rw [if_pos (by omega)]) | (rw [if_neg (by omega)]) | (rw [if_neg (by simp; omega)]) | (split <;> first | (exfalso; omega) | rfl))
    refine takeH 17 (v := ?scv17) (fun _ => trivial) (by rfl) (by kernel_rfl) hS (.inl ⟨by kernel_rfl, fun w1 ⟨z0, z1, x0, x1, _⟩ => ?scy17⟩) ?_
    case scy17 => (go_simp; try first | rfl | (rw [if_pos (by omega)]) | (rw [if_neg (by omega)]) | (rw [if_neg (by simp; omega)]) | (split <;> first | (exfalso; omega) | rfl))
    refine takeH 18 (v := ?scv18) (fun _ => trivial) (by rfl) (by kernel_rfl) hS (.inl ⟨by kernel_rfl, fun w1 ⟨z0, z1, x0, x1, _⟩ => ?scy18⟩) ?_
    case scy18 => (go_simp; try first | rfl | (rw [if_pos (by omega)]) | (rw [if_neg (by omega)]) | (rw [if_neg (by simp; omega)]) | (split <;> first | (exfalso; omega) | rfl))
    refine takeH 19 (v := ?scv19) (fun _ => trivial) (by rfl) (by kernel_rfl) hS (.inl ⟨by kernel_rfl, fun w1 ⟨z0, z1, x0, x1, _⟩ => ?scy19⟩) ?_
    case scy19 => (go_simp; try first | rfl | (rw [if_pos (by omega)]) | (rw [if_neg (by omega)]) | (rw [if_neg (by simp; omega)]) | (split <;> first | (exfalso; omega) | rfl))
    refine takeH 21 (v := ?scv21) (fun _ => trivial) (by rfl) (by kernel_rfl) hS (.inl ⟨by kernel_rfl, fun w1 ⟨z0, z1, x0, x1, _⟩ => ?scy21⟩) ?_
    case scy21 => (go_simp; try first | rfl | (rw [if_pos (by omega)]) | (rw [if_neg (by omega)]) | (rw [if_neg (by simp; omega)]) | (split <;> first | (exfalso; omega) | rfl))
    refine takeH 22 (v := ?scv22) (fun _ => trivial) (by rfl) (by kernel_rfl) hS (.inl ⟨by kernel_rfl, fun w1 ⟨z0, z1, x0, x1, _⟩ => ?scy22⟩) ?_
    case scy22 => (go_simp; try first | rfl | (rw [if_pos (by omega)]) | (rw [if_neg (by omega)]) | (rw [if_neg (by simp; omega)]) | (split <;> first | (exfalso; omega) | rfl))
    simp only [Act.put, List.setIfInBounds_toArray, List.set_cons_succ, List.set_cons_zero]
    refine oneH 20 (by rfl) (by kernel_rfl) (fun K hK => ?_)
    gi_wp2_with (gi_at_call 23; refine (callsIn_wide.2 (HX1.out k3 HK3.out)).mono ?_; rintro e9 k4 ⟨rfl, b9⟩)
    have HK4 := Lib.hid (below5 HK3.out b9)
    replace hS := HCS.out k4 (below5 HBH.out HK4.out)
    refine hK _ _ (fun _ => hS) ?_
    clear hK K b9
    refine oneH 23 (by rfl) (by kernel_rfl) (fun K hK => ?_)
    gi_wp2_with (gi_at_call 24; refine (callsIn_wide.2 (HX2.out k4 HK4.out)).mono ?_; rintro e9 k5 ⟨rfl, b9⟩)
    have HK5 := Lib.hid (below5 HK4.out b9)
    replace hS := HCS.out k5 (below5 HBH.out HK5.out)
    refine hK _ _ (fun _ => hS) ?_
    clear hK K b9
    refine takeH 24 (v := ?sdv24) (fun _ => trivial) (by rfl) (by kernel_rfl) hS (.inl ⟨by kernel_rfl, fun w1 ⟨z0, z1, x0, x1, _⟩ => ?sdy24⟩) ?_
    case sdy24 => (go_simp; try first | rfl | (rw [if_pos (by omega)]) | (rw [if_neg (by omega)]) | (rw [if_neg (by simp; omega)]) | (split <;> first | (exfalso; omega) | rfl))
    refine takeH 25 (v := ?sdv25) (fun _ => trivial) (by rfl) (by kernel_rfl) hS (.inl ⟨by kernel_rfl, fun w1 ⟨z0, z1, x0, x1, _⟩ => ?sdy25⟩) ?_
    case sdy25 => (go_simp; try first | rfl | (rw [if_pos (by omega)]) | (rw [if_neg (by omega)]) | (rw [if_neg (by simp; omega)]) | (split <;> first | (exfalso; omega) | rfl))
    refine takeH 26 (v := ?sdv26) (fun _ => trivial) (by rfl) (by kernel_rfl) hS (.inl ⟨by kernel_rfl, fun w1 ⟨z0, z1, x0, x1, _⟩ => ?sdy26⟩) ?_
    case sdy26 => (go_simp; try first | rfl | (rw [if_pos (by omega)]) | (rw [if_neg (by omega)]) | (rw [if_neg (by simp; omega)]) | (split <;> first | (exfalso; omega) | rfl))
    refine takeH 27 (v := ?sdv27) (fun _ => trivial) (by rfl) (by kernel_rfl) hS (.inl ⟨by kernel_rfl, fun w1 ⟨z0, z1, x0, x1, _⟩ => ?sdy27⟩) ?_
    case sdy27 => (go_simp; try first | rfl | (rw [if_pos (by omega)]) | (rw [if_neg (by omega)]) | (rw [if_neg (by simp; omega)]) | (split <;> first | (exfalso; omega) | rfl))
    refine takeH 28 (v := ?sdv28) (fun _ => trivial) (by rfl) (by kernel_rfl) hS (.inl ⟨by kernel_rfl, fun w1 ⟨z0, z1, x0, x1, _⟩ => ?sdy28⟩) ?_
    case sdy28 => (go_simp; try first | rfl | (rw [if_pos (by omega)]) | (rw [if_neg (by omega)]) | (rw [if_neg (by simp; omega)]) | (split <;> first | (exfalso; omega) | rfl))
    refine takeH 30 (v := ?sdv30) (fun _ => trivial) (by rfl) (by kernel_rfl) hS (.inl ⟨by kernel_rfl, fun w1 ⟨z0, z1, x0, x1, _⟩ => ?sdy30⟩) ?_
    case sdy30 => (go_simp; try first | rfl | (rw [if_pos (by omega)]) | (rw [if_neg (by omega)]) | (rw [if_neg (by simp; omega)]) | (split <;> first | (exfalso; omega) | rfl))
    refine takeH 31 (v := ?sdv31) (fun _ => trivial) (by rfl) (by kernel_rfl) hS (.inl ⟨by kernel_rfl, fun w1 ⟨z0, z1, x0, x1, _⟩ => ?sdy31⟩) ?_
    case sdy31 => (go_simp; try first | rfl | (rw [if_pos (by omega)]) | (rw [if_neg (by omega)]) | (rw [if_neg (by simp; omega)]) | (split <;> first | (exfalso; omega) | rfl))
    simp only [Act.put, List.setIfInBounds_toArray, List.set_cons_succ, List.set_cons_zero]
    refine oneH 29 (by rfl) (by kernel_rfl) (fun K hK => ?_)
    gi_wp2_with (gi_at_call 25; refine (callsIn_wide.2 (HE1.out k5 HK5.out)).mono ?_; rintro e9 k6 ⟨vp, rfl, rp, b9⟩)
    have HK6 := Lib.hid (below5 HK5.out b9)
    obtain ⟨op, cp, rfl, _, _⟩ := rp.form
    have HRP := Lib.hid rp
    replace hS := HCS.out k6 (below5 HBH.out HK6.out)
    refine hK _ _ (fun _ => hS) ?_
    clear hK K b9
    clear rp
    refine oneH 32 (by rfl) (by kernel_rfl) (fun K hK => ?_)
    gi_wp2_with (gi_at_call 26; refine (callsIn_wide.2 (HE2.out k6 HK6.out)).mono ?_; rintro e9 k7 ⟨vq2, rfl, rq2, b9⟩)
    have HK7 := Lib.hid (below5 HK6.out b9)
    obtain ⟨oq, cq, rfl, _, _⟩ := rq2.form
    have HIE := Lib.hid (isLen_any _ _ nz nz k7 (HRP.out.below b9) rq2 hnzl hnzl)
    rw [beq_self_eq_true] at HIE
    replace hS := HCS.out k7 (below5 HBH.out HK7.out)
    refine hK _ _ (fun _ => hS) ?_
    clear hK K b9
    clear rq2
    refine oneH 33 (by rfl) (by kernel_rfl) (fun K hK => ?_)
    gi_wp2_with (gi_at_call 15; refine (callsIn_wide.2 HIE.out).mono ?_; rintro e9 k8 ⟨rfl, b9⟩)
    have HK8 := Lib.hid (below5 HK7.out b9)
    replace hS := HCS.out k8 (below5 HBH.out HK8.out)
    refine hK _ _ (fun _ => hS) ?_
    clear hK K b9
    refine takeH 34 (v := ?sev34) (fun _ => trivial) (by rfl) (by kernel_rfl) hS (.inl ⟨by kernel_rfl, fun w1 ⟨z0, z1, x0, x1, _⟩ => ?sey34⟩) ?_
    case sey34 => (go_simp; try first | rfl | (rw [if_pos (by omega)]) | (rw [if_neg (by omega)]) | (rw [if_neg (by simp; omega)]) | (split <;> first | (exfalso; omega) | rfl))
    refine takeH 35 (v := ?sev35) (fun _ => trivial) (by rfl) (by kernel_rfl) hS (.inl ⟨by kernel_rfl, fun w1 ⟨z0, z1, x0, x1, _⟩ => ?sey35⟩) ?_
    case sey35 => (go_simp; try first | rfl | (rw [if_pos (by omega)]) | (rw [if_neg (by omega)]) | (rw [if_neg (by simp; omega)]) | (split <;> first | (exfalso; omega) | rfl))
    refine takeH 36 (v := ?sev36) (fun _ => trivial) (by rfl) (by kernel_rfl) hS (.inl ⟨by kernel_rfl, fun w1 ⟨z0, z1, x0, x1, _⟩ => ?sey36⟩) ?_
    case sey36 => (go_simp; try first | rfl | (rw [if_pos (by omega)]) | (rw [if_neg (by omega)]) | (rw [if_neg (by simp; omega)]) | (split <;> first | (exfalso; omega) | rfl))
    refine takeH 37 (v := ?sev37) (fun _ => trivial) (by rfl) (by kernel_rfl) hS (.inl ⟨by kernel_rfl, fun w1 ⟨z0, z1, x0, x1, _⟩ => ?sey37⟩) ?_
    case sey37 => (go_simp; try first | rfl | (rw [if_pos (by omega)]) | (rw [if_neg (by omega)]) | (rw [if_neg (by simp; omega)]) | (split <;> first | (exfalso; omega) | rfl))
    refine takeH 38 (v := ?sev38) (fun _ => trivial) (by rfl) (by kernel_rfl) hS (.inl ⟨by kernel_rfl, fun w1 ⟨z0, z1, x0, x1, _⟩ => ?sey38⟩) ?_
    case sey38 => (go_simp; try first | rfl | (rw [if_pos (by omega)]) | (rw [if_neg (by omega)]) | (rw [if_neg (by simp; omega)]) | (split <;> first | (exfalso; omega) | rfl))
    refine takeH 39 (v := ?sev39) (fun _ => trivial) (by rfl) (by kernel_rfl) hS (.inl ⟨by kernel_rfl, fun w1 ⟨z0, z1, x0, x1, _⟩ => ?sey39⟩) ?_
    case sey39 => (go_simp; try first | rfl | (rw [if_pos (by omega)]) | (rw [if_neg (by omega)]) | (rw [if_neg (by simp; omega)]) | (split <;> first | (exfalso; omega) | rfl))
    refine takeH 40 (v := ?sev40) (fun _ => trivial) (by rfl) (by kernel_rfl) hS (.inl ⟨by kernel_rfl, fun w1 ⟨z0, z1, x0, x1, _⟩ => ?sey40⟩) ?_
    case sey40 => (go_simp; try first | rfl | (rw [if_pos (by omega)]) | (rw [if_neg (by omega)]) | (rw [if_neg (by simp; omega)]) | (split <;> first | (exfalso; omega) | rfl))
    refine takeH 41 (v := ?sev41) (fun _ => trivial) (by rfl) (by kernel_rfl) hS (.inl ⟨by kernel_rfl, fun w1 ⟨z0, z1, x0, x1, _⟩ => ?sey41⟩) ?_
    case sey41 => (go_simp; try first | rfl | (rw [if_pos (by omega)]) | (rw [if_neg (by omega)]) | (rw [if_neg (by simp; omega)]) | (split <;> first | (exfalso; omega) | rfl))
    refine takeH 42 (v := ?sev42) (fun _ => trivial) (by rfl) (by kernel_rfl) hS (.inl ⟨by kernel_rfl, fun w1 ⟨z0, z1, x0, x1, _⟩ => ?sey42⟩) ?_
    case sey42 => (go_simp; try first | rfl | (rw [if_pos (by omega)]) | (rw [if_neg (by omega)]) | (rw [if_neg (by simp; omega)]) | (split <;> first | (exfalso; omega) | rfl))
    refine takeH 43 (v := ?sev43) (fun _ => trivial) (by rfl) (by kernel_rfl) hS (.inl ⟨by kernel_rfl, fun w1 ⟨z0, z1, x0, x1, _⟩ => ?sey43⟩) ?_
    case sey43 => (go_simp; try first | rfl | (rw [if_pos (by omega)]) | (rw [if_neg (by omega)]) | (rw [if_neg (by simp; omega)]) | (split <;> first | (exfalso; omega) | rfl))
    simp only [Act.put, List.setIfInBounds_toArray, List.set_cons_succ, List.set_cons_zero]
    refine takeH 44 (v := undef) (fun _ => trivial) (by rfl) (by kernel_rfl) hS (.inr ⟨by kernel_rfl, rfl⟩) ?_
    refine takeH 45 (v := undef) (fun _ => trivial) (by rfl) (by kernel_rfl) hS (.inr ⟨by kernel_rfl, rfl⟩) ?_
    refine takeH 46 (v := undef) (fun _ => trivial) (by rfl) (by kernel_rfl) hS (.inr ⟨by kernel_rfl, rfl⟩) ?_
    simp only [Act.put, List.setIfInBounds_toArray, List.set_cons_succ, List.set_cons_zero]
    have HK9 := HK8
    refine takeH 47 (v := ?sfv47) (fun _ => trivial) (by rfl) (by kernel_rfl) hS (.inl ⟨by kernel_rfl, fun w1 ⟨z0, z1, x0, x1, _⟩ => ?sfy47⟩) ?_
    case sfy47 => (go_simp; try first | rfl | (rw [if_pos (by omega)]) | (rw [if_neg (by omega)]) | (rw [if_neg (by simp; omega)]) | (split <;> first | (exfalso; omega) | rfl))
    refine takeH 48 (v := ?sfv48) (fun _ => trivial) (by rfl) (by kernel_rfl) hS (.inl ⟨by kernel_rfl, fun w1 ⟨z0, z1, x0, x1, _⟩ => ?sfy48⟩) ?_
    case sfy48 => (go_simp; try first | rfl | (rw [if_pos (by omega)]) | (rw [if_neg (by omega)]) | (rw [if_neg (by simp; omega)]) | (split <;> first | (exfalso; omega) | rfl))
    refine takeH 49 (v := ?sfv49) (fun _ => trivial) (by rfl) (by kernel_rfl) hS (.inl ⟨by kernel_rfl, fun w1 ⟨z0, z1, x0, x1, _⟩ => ?sfy49⟩) ?_
    case sfy49 => (go_simp; try first | rfl | (rw [if_pos (by omega)]) | (rw [if_neg (by omega)]) | (rw [if_neg (by simp; omega)]) | (split <;> first | (exfalso; omega) | rfl))
    refine takeH 50 (v := ?sfv50) (fun _ => trivial) (by rfl) (by kernel_rfl) hS (.inl ⟨by kernel_rfl, fun w1 ⟨z0, z1, x0, x1, _⟩ => ?sfy50⟩) ?_
    case sfy50 => (go_simp; try first | rfl | (rw [if_pos (by omega)]) | (rw [if_neg (by omega)]) | (rw [if_neg (by simp; omega)]) | (split <;> first | (exfalso; omega) | rfl))
    refine takeH 51 (v := ?sfv51) (fun _ => trivial) (by rfl) (by kernel_rfl) hS (.inl ⟨by kernel_rfl, fun w1 ⟨z0, z1, x0, x1, _⟩ => ?sfy51⟩) ?_
    case sfy51 => (go_simp; try first | rfl | (rw [if_pos (by omega)]) | (rw [if_neg (by omega)]) | (rw [if_neg (by simp; omega)]) | (split <;> first | (exfalso; omega) | rfl))
    refine takeH 53 (v := ?sfv53) (fun _ => trivial) (by rfl) (by kernel_rfl) hS (.inl ⟨by kernel_rfl, fun w1 ⟨z0, z1, x0, x1, _⟩ => ?sfy53⟩) ?_
    case sfy53 => (go_simp; try first | rfl | (rw [if_pos (by omega)]) | (rw [if_neg (by omega)]) | (rw [if_neg (by simp; omega)]) | (split <;> first | (exfalso; omega) | rfl))
    refine takeH 54 (v := ?sfv54) (fun _ => trivial) (by rfl) (by kernel_rfl) hS (.inl ⟨by kernel_rfl, fun w1 ⟨z0, z1, x0, x1, _⟩ => ?sfy54⟩) ?_
    case sfy54 => (go_simp; try first | rfl | (rw [if_pos (by omega)]) | (rw [if_neg (by omega)]) | (rw [if_neg (by simp; omega)]) | (split <;> first | (exfalso; omega) | rfl))
    simp only [Act.put, List.setIfInBounds_toArray, List.set_cons_succ, List.set_cons_zero]
    refine oneH 52 (by rfl) (by kernel_rfl) (fun K hK => ?_)
    gi_wp2_with (gi_at_call 28; refine (callsIn_wide.2 (HGL1.out k8 HK8.out)).mono ?_; rintro e9 k10 ⟨og, cg, d1, rfl, g1, g2, b9⟩)
    have HK10 := Lib.hid (below5 HK8.out b9)
    have HG1 := Lib.hid g1
    have HG2 := Lib.hid g2
    replace hS := HCS.out k10 (below5 HBH.out HK10.out)
    refine hK _ _ (fun _ => hS) ?_
    clear hK K b9
    clear g1 g2
    refine oneH 55 (by rfl) (by kernel_rfl) (fun K hK => ?_)
    gi_wp2_with (gi_at_call 29; refine (callsIn_wide.2 (HGL2.out k10 HK10.out)).mono ?_; rintro e9 k11 ⟨ox, cx, d2, rfl, g1, g2, b9⟩)
    have HK11 := Lib.hid (below5 HK10.out b9)
    have hdl : d2.length = d1.length := by have h1 := congrArg List.length g2; have h2 := congrArg List.length HG2.out; rw [plE_len] at h1 h2; omega
    rw [hdl] at g1 ⊢
    have HIA := Lib.hid (isAll_any (w0 := k11) (.slice og d1.length cg) (.slice ox d1.length cx) d1 d2 (below5 HB68.out (below5 HBH.out HK11.out)) (HG1.out.below b9) g1 (by rw [HG2.out, g2]) (by have h2 := congrArg List.length HG2.out; rw [plE_len] at h2; omega) (fun x hx => HGDF.out _ (by rw [← HG2.out]; exact List.mem_map.2 ⟨x, hx, rfl⟩)))
    replace hS := HCS.out k11 (below5 HBH.out HK11.out)
    refine hK _ _ (fun _ => hS) ?_
    clear hK K b9
    clear g1 g2 hdl
    refine oneH 56 (by rfl) (by kernel_rfl) (fun K hK => ?_)
    gi_wp2_with (gi_at_call 27; refine (callsIn_wide.2 HIA.out).mono ?_; rintro e9 k12 ⟨rfl, b9⟩)
    have HK12 := Lib.hid (below5 HK11.out b9)
    replace hS := HCS.out k12 (below5 HBH.out HK12.out)
    refine hK _ _ (fun _ => hS) ?_
    clear hK K b9
    refine takeH 57 (v := ?sgv57) (fun _ => trivial) (by rfl) (by kernel_rfl) hS (.inl ⟨by kernel_rfl, fun w1 ⟨z0, z1, x0, x1, _⟩ => ?sgy57⟩) ?_
    case sgy57 => (go_simp; try first | rfl | (rw [if_pos (by omega)]) | (rw [if_neg (by omega)]) | (rw [if_neg (by simp; omega)]) | (split <;> first | (exfalso; omega) | rfl))
    simp only [Act.put, List.setIfInBounds_toArray, List.set_cons_succ, List.set_cons_zero]
    refine oneH 58 (by rfl) (by kernel_rfl) (fun K hK => ?_)
    gi_wp2_with fail
    refine hK _ _ (fun _ => hS) ?_
    clear hK K
    refine doneH (by kernel_rfl) ?_
    clear hS
    gi_wp2_with fail
    go_ret
    exact ⟨rfl, below5 HB8w.out (below5 HBH.out HK12.out)⟩
end Go.Proofs.YtneghhbclefmoaaGreat
