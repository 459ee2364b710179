/- The walk of SetsEqual. -/
import Derived.Test.YtneghhbclefmoaaLCdA
namespace Go.Proofs.Ytneghhbclefmoaa
open Go.RowKit Go.Shelf Go.Sort
set_option maxRecDepth 100000

def TrE (w : World) (e : Ending) (w' : World) : Prop := e = .returned (.bool true) ∧ Below w.heap.size w w'
/-- data as the document's: a row of names of its own, all else in w -/
def OfD (w : World) (cs : List Value) (r : Rc.PRec) (W : World) : Prop :=
  ∃ us ox cx vm vt vr, cs = [.int .i64 r.type, .slice ox us.length cx, vm, vt, vr] ∧ Row (fun g => w.heap.size ≤ g) 22 1 (.slice ox us.length cx) us.length us W ∧ us.length = r.names.length ∧
    (∀ i (h : i < us.length) (h' : i < r.names.length), Rd us[i] r.names[i] w) ∧ Sl vm (numC r.nums) w ∧ Rd vt r.texts w ∧ BtRd vr r.raw w
theorem OfD.dat {w : World} {cs : List Value} {r : Rc.PRec} {W : World} (h : OfD w cs r W) (hb : Below w.heap.size w W) : DatRd cs r W := by
  obtain ⟨us, ox, cx, vm, vt, vr, rfl, h1, h2, h3, h4, h5, h6⟩ := h
  exact ⟨_, vm, vt, vr, rfl, ⟨us, h2, Row.sl h1, fun i hi hi' => (h3 i hi hi').below hb⟩, h4.below hb, h5.below hb, Sl.below h6 hb⟩
theorem OfD.below {w : World} {cs : List Value} {r : Rc.PRec} {W W' : World} (h : OfD w cs r W) (hb : Below W.heap.size W W') : OfD w cs r W' := by
  obtain ⟨us, ox, cx, vm, vt, vr, rfl, h1, h2⟩ := h
  exact ⟨us, ox, cx, vm, vt, vr, rfl, h1.below hb, h2⟩
theorem OfD.grown {w : World} {cs : List Value} {r : Rc.PRec} {W W' : World} {row : Option Nat} (h : OfD w cs r W) (hg : W.grownBy W' row) (hr : ∀ g, row = some g → ∃ c t f, W.heap[g]? = some (.cells c t f) ∧ t ≠ 22) : OfD w cs r W' := by
  obtain ⟨us, ox, cx, vm, vt, vr, rfl, h1, h2⟩ := h
  refine ⟨us, ox, cx, vm, vt, vr, rfl, h1.kept fun g c t f hv hk => (hg.block g (Array.getElem?_eq_some_iff.1 hk).1 (fun e => ?_)).trans hk, h2⟩
  obtain ⟨c1, f1, h3⟩ := h1.typ hv
  obtain ⟨c2, t2, f2, h4, h5⟩ := hr g e.symm
  rw [h3] at h4; cases h4; exact h5 rfl
theorem OfD.one {w : World} {cs : List Value} {r : Rc.PRec} {W : World} (h : OfD w cs r W) (hb : Below w.heap.size w W) : cs.length = 5 ∧ ∀ u ∈ cs, u.oneCell' = true := (h.dat hb).ok
theorem info_rdat : (Try.prog.info? 77).map (fun i => (i.zero, i.size, i.bytes)) = some (some (.agg #[.int .i64 0, .slice none 0 0, .slice none 0 0, .slice none 0 0, .slice none 0 0]), 5, 104) := by kernel_rfl
theorem ofD_any (cs : List Value) (r : Rc.PRec) (w W : World) (h : DatRd cs r w) (hd : DF r) (hb : Below w.heap.size w W) :
    Calls Try.prog 39 #[.agg cs.toArray] W fun e w' => ∃ c0 c1 c2 c3 c4, e = .returned (.agg #[c0, c1, c2, c3, c4]) ∧ OfD w [c0, c1, c2, c3, c4] r w' ∧ Below W.heap.size W w' := by
  obtain ⟨vn, vm, vt, vr, rfl, ⟨us, u1, u2, u3⟩, h2, h3, h4⟩ := h
  have hs : ∀ u ∈ us, ∃ o l c, u = .slice o l c := fun u hu => by
    obtain ⟨i, hi, rfl⟩ := List.mem_iff_getElem.1 hu
    obtain ⟨o, c, e, _⟩ := (u3 i hi (by omega)).form
    exact ⟨_, _, _, e⟩
  obtain ⟨om, cm, em, _⟩ := h2.form
  obtain ⟨ot, ct, et, _⟩ := h3.form
  obtain ⟨or, cr, er, _⟩ := Sl.form h4
  refine (of4_any vn vm vt vr us r.type W (u2.below hb) hs ⟨_, _, _, em⟩ ⟨_, _, _, et⟩ ⟨_, _, _, er⟩ (by have := hd.names; omega)).mono ?_
  rintro e w' ⟨ox, cx, rfl, hrow, b⟩
  exact ⟨_, _, _, _, _, rfl, ⟨us, ox, cx, vm, vt, vr, rfl, hrow.mono (fun g hg => by have := hb.size; omega), u1, u3, h2, h3, h4⟩, b⟩
theorem datsRd_of {w : World} {v : Value} {l : List (El w)} {W : World} (h : GRd 5 v (l.map encD) W) : DatsRd v l W := by
  obtain ⟨o, cap, h1, h2, h3, h4, h5, h6⟩ := h
  rw [List.length_map] at h1 h2
  refine ⟨o, cap, h1, h2, h3, h4, fun j hj => ?_⟩
  have hj' := hj
  rw [flat_len encD 5 encD_len] at hj'
  have q1 : j / 5 < l.length := by omega
  obtain ⟨a, ha, e⟩ := h6 (j / 5) (by simpa using q1) (j % 5) (Nat.mod_lt _ (by omega))
  rw [show j / 5 * 5 + j % 5 = j by omega, List.getElem_map, ← flat_get encD 5 encD_len l (j / 5) (j % 5) q1 (Nat.mod_lt _ (by omega)), show j / 5 * 5 + j % 5 = j by omega, List.getElem?_eq_getElem hj] at e
  exact ⟨a, ha, e⟩
theorem els_dat {W : World} : ∀ {l : List RP}, (∀ x ∈ l, DatRd x.1 x.2 W ∧ RB x.2 ∧ x.2.owner = [] ∧ x.2.ttl = 0) → ∃ L : List (El W), L.map encD = l.map (·.1) ∧ plE L = plD l
  | [], _ => ⟨[], rfl, rfl⟩
  | x :: l, h => by
    obtain ⟨L, h1, h2⟩ := els_dat (fun y hy => h y (List.mem_cons_of_mem _ hy))
    obtain ⟨hd, hb, ho, ht⟩ := h x List.mem_cons_self
    refine ⟨⟨(.slice none 0 0 :: .int .u32 ((x.2.ttl : Nat) : Int) :: x.1, x.2), ⟨_, _, rfl, by rw [ho]; exact Rd.nil W, hd⟩, hb⟩ :: L, ?_, ?_⟩
    · simp only [List.map_cons, h1]; rfl
    · show _ :: plE L = _ :: plD l
      rw [h2]
set_option maxHeartbeats 8000000 in
theorem walkSetsEqual (v0 : Value) (l0 : List RP) (v1 : Value) (l1 : List RP) (w : World) (h0 : DtsRd v0 l0 w ∧ ∀ x ∈ l0, x.2.owner = [] ∧ x.2.ttl = 0 ∧ ∀ n ∈ x.2.nums, n < 4294967296) (h1 : DtsRd v1 l1 w ∧ ∀ x ∈ l1, x.2.owner = [] ∧ x.2.ttl = 0 ∧ ∀ n ∈ x.2.nums, n < 4294967296) :
    Calls Try.prog 7 #[v0, v1] w (TrE w) := by
  obtain ⟨h0, hn0⟩ := h0
  obtain ⟨h1, hn1⟩ := h1
  obtain ⟨o0, c0, rfl, _, hc0⟩ := h0.form
  obtain ⟨o1, c1, rfl, _, hc1⟩ := h1.form
  have HV0 := Lib.hid h0
  have HV1 := Lib.hid h1
  have HN0 := Lib.hid hn0
  have HN1 := Lib.hid hn1
  clear h0 h1 hn0 hn1
  by_cases hz0 : 12 < l0.length
  case pos =>
    have hz : (12 : Int) < (l0.length : Int) := by omega
    refine (callsIn_wide (n := 0)).1 ?_
    refine callsIn_of_wp Try.func7 rfl trivial ?_ rfl
    simp only [Try.ntmps7, List.size_toArray, List.length_cons, List.length_nil, Nat.reduceAdd, Nat.reduceSub, Array.replicate_succ, Array.replicate_zero, List.push_toArray, List.append_toArray, List.nil_append, List.cons_append]
    gi_wp2_with fail
    refine (callsIn_wide.2 (known6_any _)).mono ?_
    rintro e w1 ⟨rfl, b1⟩
    gi_wp2_with fail
    go_ret
    exact ⟨rfl, b1⟩
  by_cases hz1 : 12 < l1.length
  case pos =>
    have hz : (12 : Int) < (l1.length : Int) := by omega
    have hz2 : ¬ (12 : Int) < (l0.length : Int) := by omega
    refine (callsIn_wide (n := 0)).1 ?_
    refine callsIn_of_wp Try.func7 rfl trivial ?_ rfl
    simp only [Try.ntmps7, List.size_toArray, List.length_cons, List.length_nil, Nat.reduceAdd, Nat.reduceSub, Array.replicate_succ, Array.replicate_zero, List.push_toArray, List.append_toArray, List.nil_append, List.cons_append]
    gi_wp2_with fail
    refine (callsIn_wide.2 (known6_any _)).mono ?_
    rintro e w1 ⟨rfl, b1⟩
    gi_wp2_with fail
    go_ret
    exact ⟨rfl, b1⟩
  have zz0 : ¬ (12 : Int) < (l0.length : Int) := by omega
  have zz1 : ¬ (12 : Int) < (l1.length : Int) := by omega
  have zl0 : (l0.length : Int) ≤ 12 := by omega
  have zl1 : (l1.length : Int) ≤ 12 := by omega
  refine (callsIn_wide (n := 0)).1 ?_
  refine callsIn_of_wp Try.func7 rfl trivial ?_ rfl
  simp only [Try.ntmps7, List.size_toArray, List.length_cons, List.length_nil, Nat.reduceAdd, Nat.reduceSub, Array.replicate_succ, Array.replicate_zero, List.push_toArray, List.append_toArray, List.nil_append, List.cons_append]
  gi_wp2_with fail
  refine (callsIn_wide.2 (known6_any _)).mono ?_
  rintro e w1 ⟨rfl, b1⟩
  have HB1 := Lib.hid b1
  clear b1
  gi_wp2_with fail
  gi_loopw [5, 7] (fun vx vi W => ∃ (i : Nat) (ys : List RP), i ≤ l0.length ∧ vi = .int .i64 i ∧ ys.length = i ∧ Hid (plD ys = plD (l0.take i) ∧ (∀ x ∈ l0.take i, DF x.2) ∧ ∀ y ∈ ys, OfD w y.1 y.2 W) ∧ Below w1.heap.size w1 W ∧ Row (fun g => w1.heap.size ≤ g) 77 5 vx ys.length (ys.map (·.1)).flatten W) (fun _ vi _ => l0.length - (intOf vi).toNat)
  case atStart => exact ⟨0, [], Nat.zero_le _, rfl, rfl, ⟨rfl, by simp, by simp⟩, Below.refl _ _, Row.nil _ _ _ _⟩
  case round =>
    obtain ⟨i, ys, hi, rfl, hyl, HI, hb, hrow⟩ := hrel
    by_cases hlt : i < l0.length
    · have hlz : (i : Int) < (l0.length : Int) := by omega
      have hbw : Below w.heap.size w wr := below5 HB1.out hb
      obtain ⟨x, hx⟩ : ∃ x, l0[i] = x := ⟨_, rfl⟩
      have hdx := HV0.out.2 x (by rw [← hx]; exact List.getElem_mem _)
      obtain ⟨us, p1, q1, p2, n2, q2, p3, n3, q3, p4, n4, q4, ex, _⟩ := hdx.cells5
      obtain ⟨n1, hn1⟩ : ∃ n, us.length = n := ⟨_, rfl⟩
      rw [hn1] at ex
      have HCE : Hid (∀ W', Below w.heap.size w W' → ∃ a, o0 = some a ∧ W'.cell? (a.add (i * 5)) = some (.int .i64 x.2.type) ∧ W'.cell? ⟨(a.add (i * 5)).block, (a.add (i * 5)).off + 1, none⟩ = some (.slice p1 n1 q1) ∧ W'.cell? ⟨(a.add (i * 5)).block, (a.add (i * 5)).off + 2, none⟩ = some (.slice p2 n2 q2) ∧ W'.cell? ⟨(a.add (i * 5)).block, (a.add (i * 5)).off + 3, none⟩ = some (.slice p3 n3 q3) ∧ W'.cell? ⟨(a.add (i * 5)).block, (a.add (i * 5)).off + 4, none⟩ = some (.slice p4 n4 q4)) := fun W' hW => HV0.out.el W' hW i hlt _ _ _ _ _ (by rw [hx]; exact ex)
      obtain ⟨ga, rfl, e0, e1, e2, e3, e4⟩ := HCE.out _ hbw
      have htk : l0.take (i + 1) = l0.take i ++ [x] := by rw [List.take_succ_eq_append_getElem hlt, hx]
      rw [ex] at hdx
      have HTK := Lib.hid htk
      have HDX := Lib.hid hdx
      have HEX := Lib.hid ex
      have HFW := Lib.hid (few4_any _ x.2 wr (hdx.below hbw))
      have HB := Lib.hid hb
      have HR := Lib.hid hrow
      have HBW := Lib.hid hbw
      clear hx ex hdx htk hb hrow hn1 hbw
      gi_wp2_with fail
      refine (callsIn_wide.2 HFW.out).mono ?_
      rintro e w3 ⟨b, rfl, hq, b3⟩
      have HB3 := Lib.hid (below5 HB.out b3)
      have HBW3 := Lib.hid (below5 HBW.out b3)
      have HR3 := Lib.hid (HR.out.below b3)
      have HQ := Lib.hid hq
      have HI3 : Hid (∀ y ∈ ys, OfD w y.1 y.2 w3) := fun y hy => (HI.out.2.2 y hy).below b3
      clear e0 e1 e2 e3 e4 hq b3 HFW
      cases b with
      | false =>
        gi_wp2_with fail
        go_ret
        exact ⟨rfl, HBW3.out⟩
      | true =>
        have hdf := HQ.out rfl
        have HDF := Lib.hid hdf
        have HOF := Lib.hid (ofD_any _ x.2 w w3 HDX.out hdf HBW3.out)
        obtain ⟨ga', hga, e0, e1, e2, e3, e4⟩ := HCE.out _ HBW3.out
        cases hga
        obtain ⟨ea, hea⟩ : ∃ q, ga.add (i * 5) = q := ⟨_, rfl⟩
        rw [hea] at e0 e1 e2 e3 e4
        clear hdf HQ
        gi_wp2_with fail
        refine (callsIn_wide.2 HOF.out).mono ?_
        rintro e w4 ⟨d0, d1, d2, d3, d4, rfl, hof, b4⟩
        have hd := hof.dat (below5 HBW3.out b4)
        obtain ⟨us4, r1, t1, r2, k2, t2, r3, k3, t3, r4, k4, t4, e5, _⟩ := hd.cells5
        simp only [List.cons.injEq, and_true] at e5
        obtain ⟨rfl, rfl, rfl, rfl, rfl⟩ := e5
        obtain ⟨n4', hn4⟩ : ∃ n, us4.length = n := ⟨_, rfl⟩
        rw [hn4] at hof ⊢
        have HB4 := Lib.hid (below5 HB3.out b4)
        have HBW4 := Lib.hid (below5 HBW3.out b4)
        have HR4 := Lib.hid (HR3.out.below b4)
        have HI4 : Hid (∀ y ∈ ys, OfD w y.1 y.2 w4) := fun y hy => (HI3.out y hy).below b4
        have HOD := Lib.hid hof
        have hg4 := GRd.new [.int .i64 x.2.type, .slice r1 n4' t1, .slice r2 k2 t2, .slice r3 k3 t3, .slice r4 k4 t4] rfl (by simp [Value.oneCell']) w4 77
        have HG4 := Lib.hid hg4
        have HR5 := Lib.hid (HR4.out.alloc (.cells #[.int .i64 x.2.type, .slice r1 n4' t1, .slice r2 k2 t2, .slice r3 k3 t3, .slice r4 k4 t4] 77))
        have hba : Below w4.heap.size w4 (w4.alloc (.cells #[.int .i64 x.2.type, .slice r1 n4' t1, .slice r2 k2 t2, .slice r3 k3 t3, .slice r4 k4 t4] 77)) := (Below.refl _ _).alloc (Nat.le_refl _) _
        have HBA := Lib.hid hba
        have hRz : w1.heap.size ≤ w4.heap.size + 1 := by have := HB4.out.size; omega
        have HRZ := Lib.hid hRz
        have hyn : ys.length + 1 ≤ 100000 := by omega
        clear e0 e1 e2 e3 e4 hof b4 hd hn4 hg4 hba HOF hRz hea
        gi_wp2_with (gi_at_builtin; refine append_g (fun g => w1.heap.size ≤ g) 77 _ 5 104 info_rdat rfl (by decide) rfl _ _ _ Try.underlying55 rfl _ ys.length (ys.map (·.1)) (by rfl) HR5.out _ [[.int .i64 x.2.type, .slice r1 n4' t1, .slice r2 k2 t2, .slice r3 k3 t3, .slice r4 k4 t4]] (by rfl) HG4.out hyn (by omega) (by rw [World.size_alloc]; exact HRZ.out) ?_; intro v10 w10 hrow10 hgr10; have HR10 := Lib.hid hrow10; have HGR10 := Lib.hid hgr10; clear hrow10 hgr10)
        gi_wp2_with fail
        have hgt : ∀ g, Value.ownBlock u5 = some g → ∃ c t f, (w4.alloc (.cells #[.int .i64 x.2.type, .slice r1 n4' t1, .slice r2 k2 t2, .slice r3 k3 t3, .slice r4 k4 t4] 77)).heap[g]? = some (.cells c t f) ∧ t ≠ 22 := fun g hg => by
          obtain ⟨c, f, h⟩ := HR5.out.typ hg
          exact ⟨c, _, f, h, by decide⟩
        refine ⟨⟨i + 1, ys ++ [([.int .i64 x.2.type, .slice r1 n4' t1, .slice r2 k2 t2, .slice r3 k3 t3, .slice r4 k4 t4], x.2)], hlt, by go_num, by simp; omega, ?_, ?_, ?_⟩, by simp [intOf]; omega⟩
        · refine ⟨?_, fun y hy => ?_, fun y hy => ?_⟩
          · rw [HTK.out]
            have := HI.out.1
            simp only [plD, List.map_append] at this ⊢
            rw [this]; rfl
          · rw [HTK.out, List.mem_append, List.mem_singleton] at hy
            rcases hy with hy | rfl
            · exact HI.out.2.1 y hy
            · exact HDF.out
          · rw [List.mem_append, List.mem_singleton] at hy
            rcases hy with hy | rfl
            · exact ((HI4.out y hy).below HBA.out).grown HGR10.out hgt
            · exact (HOD.out.below HBA.out).grown HGR10.out hgt
        · exact (below5 HB4.out HBA.out).grown HGR10.out (below5 HB4.out HBA.out).size (fun g hg => HR5.out.2 g hg)
        · have := HR10.out
          rw [List.length_append, List.map_append]
          exact this
    · have hlz : ¬ ((i : Int) < (l0.length : Int)) := by omega
      obtain rfl : i = l0.length := by omega
      have HX0 := HI.out
      rw [List.take_length] at HX0
      have HI0 := Lib.hid HX0
      obtain ⟨ox0, cx0, hvx⟩ : ∃ o c, u5 = .slice o ys.length c := hrow.form
      subst hvx
      have HBL0 := Lib.hid hb
      have HR0 := Lib.hid hrow
      obtain ⟨ys0, hys0⟩ : ∃ y, ys = y := ⟨_, rfl⟩
      rw [hys0] at HI0 HR0 hyl ⊢
      obtain ⟨wm, hwm⟩ : ∃ W, wr = W := ⟨_, rfl⟩
      rw [hwm] at HI0 HR0 HBL0 ⊢
      have HYL0 := Lib.hid hyl
      clear HI hb hrow hys0 hwm HX0 hyl
      gi_wp2_with fail
      gi_loopw [6, 8] (fun vx vi W => ∃ (i : Nat) (ys : List RP), i ≤ l1.length ∧ vi = .int .i64 i ∧ ys.length = i ∧ Hid (plD ys = plD (l1.take i) ∧ (∀ x ∈ l1.take i, DF x.2) ∧ ∀ y ∈ ys, OfD w y.1 y.2 W) ∧ Below wm.heap.size wm W ∧ Row (fun g => wm.heap.size ≤ g) 77 5 vx ys.length (ys.map (·.1)).flatten W) (fun _ vi _ => l1.length - (intOf vi).toNat)
      case atStart => exact ⟨0, [], Nat.zero_le _, rfl, rfl, ⟨rfl, by simp, by simp⟩, Below.refl _ _, Row.nil _ _ _ _⟩
      case round =>
        obtain ⟨i, ys, hi, rfl, hyl, HI, hb, hrow⟩ := hrel
        by_cases hlt : i < l1.length
        · have hlz : (i : Int) < (l1.length : Int) := by omega
          have hbw : Below w.heap.size w wr := below5 (below5 HB1.out HBL0.out) hb
          obtain ⟨x, hx⟩ : ∃ x, l1[i] = x := ⟨_, rfl⟩
          have hdx := HV1.out.2 x (by rw [← hx]; exact List.getElem_mem _)
          obtain ⟨us, p1, q1, p2, n2, q2, p3, n3, q3, p4, n4, q4, ex, _⟩ := hdx.cells5
          obtain ⟨n1, hn1⟩ : ∃ n, us.length = n := ⟨_, rfl⟩
          rw [hn1] at ex
          have HCE : Hid (∀ W', Below w.heap.size w W' → ∃ a, o1 = some a ∧ W'.cell? (a.add (i * 5)) = some (.int .i64 x.2.type) ∧ W'.cell? ⟨(a.add (i * 5)).block, (a.add (i * 5)).off + 1, none⟩ = some (.slice p1 n1 q1) ∧ W'.cell? ⟨(a.add (i * 5)).block, (a.add (i * 5)).off + 2, none⟩ = some (.slice p2 n2 q2) ∧ W'.cell? ⟨(a.add (i * 5)).block, (a.add (i * 5)).off + 3, none⟩ = some (.slice p3 n3 q3) ∧ W'.cell? ⟨(a.add (i * 5)).block, (a.add (i * 5)).off + 4, none⟩ = some (.slice p4 n4 q4)) := fun W' hW => HV1.out.el W' hW i hlt _ _ _ _ _ (by rw [hx]; exact ex)
          obtain ⟨ga, rfl, e0, e1, e2, e3, e4⟩ := HCE.out _ hbw
          have htk : l1.take (i + 1) = l1.take i ++ [x] := by rw [List.take_succ_eq_append_getElem hlt, hx]
          rw [ex] at hdx
          have HTK := Lib.hid htk
          have HDX := Lib.hid hdx
          have HEX := Lib.hid ex
          have HFW := Lib.hid (few4_any _ x.2 wr (hdx.below hbw))
          have HB := Lib.hid hb
          have HR := Lib.hid hrow
          have HBW := Lib.hid hbw
          clear hx ex hdx htk hb hrow hn1 hbw
          gi_wp2_with fail
          refine (callsIn_wide.2 HFW.out).mono ?_
          rintro e w3 ⟨b, rfl, hq, b3⟩
          have HB3 := Lib.hid (below5 HB.out b3)
          have HBW3 := Lib.hid (below5 HBW.out b3)
          have HR3 := Lib.hid (HR.out.below b3)
          have HQ := Lib.hid hq
          have HI3 : Hid (∀ y ∈ ys, OfD w y.1 y.2 w3) := fun y hy => (HI.out.2.2 y hy).below b3
          clear e0 e1 e2 e3 e4 hq b3 HFW
          cases b with
          | false =>
            gi_wp2_with fail
            go_ret
            exact ⟨rfl, HBW3.out⟩
          | true =>
            have hdf := HQ.out rfl
            have HDF := Lib.hid hdf
            have HOF := Lib.hid (ofD_any _ x.2 w w3 HDX.out hdf HBW3.out)
            obtain ⟨ga', hga, e0, e1, e2, e3, e4⟩ := HCE.out _ HBW3.out
            cases hga
            obtain ⟨ea, hea⟩ : ∃ q, ga.add (i * 5) = q := ⟨_, rfl⟩
            rw [hea] at e0 e1 e2 e3 e4
            clear hdf HQ
            gi_wp2_with fail
            refine (callsIn_wide.2 HOF.out).mono ?_
            rintro e w4 ⟨d0, d1, d2, d3, d4, rfl, hof, b4⟩
            have hd := hof.dat (below5 HBW3.out b4)
            obtain ⟨us4, r1, t1, r2, k2, t2, r3, k3, t3, r4, k4, t4, e5, _⟩ := hd.cells5
            simp only [List.cons.injEq, and_true] at e5
            obtain ⟨rfl, rfl, rfl, rfl, rfl⟩ := e5
            obtain ⟨n4', hn4⟩ : ∃ n, us4.length = n := ⟨_, rfl⟩
            rw [hn4] at hof ⊢
            have HB4 := Lib.hid (below5 HB3.out b4)
            have HBW4 := Lib.hid (below5 HBW3.out b4)
            have HR4 := Lib.hid (HR3.out.below b4)
            have HI4 : Hid (∀ y ∈ ys, OfD w y.1 y.2 w4) := fun y hy => (HI3.out y hy).below b4
            have HOD := Lib.hid hof
            have hg4 := GRd.new [.int .i64 x.2.type, .slice r1 n4' t1, .slice r2 k2 t2, .slice r3 k3 t3, .slice r4 k4 t4] rfl (by simp [Value.oneCell']) w4 77
            have HG4 := Lib.hid hg4
            have HR5 := Lib.hid (HR4.out.alloc (.cells #[.int .i64 x.2.type, .slice r1 n4' t1, .slice r2 k2 t2, .slice r3 k3 t3, .slice r4 k4 t4] 77))
            have hba : Below w4.heap.size w4 (w4.alloc (.cells #[.int .i64 x.2.type, .slice r1 n4' t1, .slice r2 k2 t2, .slice r3 k3 t3, .slice r4 k4 t4] 77)) := (Below.refl _ _).alloc (Nat.le_refl _) _
            have HBA := Lib.hid hba
            have hRz : wm.heap.size ≤ w4.heap.size + 1 := by have := HB4.out.size; omega
            have HRZ := Lib.hid hRz
            have hyn : ys.length + 1 ≤ 100000 := by omega
            clear e0 e1 e2 e3 e4 hof b4 hd hn4 hg4 hba HOF hRz hea
            gi_wp2_with (gi_at_builtin; refine append_g (fun g => wm.heap.size ≤ g) 77 _ 5 104 info_rdat rfl (by decide) rfl _ _ _ Try.underlying55 rfl _ ys.length (ys.map (·.1)) (by rfl) HR5.out _ [[.int .i64 x.2.type, .slice r1 n4' t1, .slice r2 k2 t2, .slice r3 k3 t3, .slice r4 k4 t4]] (by rfl) HG4.out hyn (by omega) (by rw [World.size_alloc]; exact HRZ.out) ?_; intro v10 w10 hrow10 hgr10; have HR10 := Lib.hid hrow10; have HGR10 := Lib.hid hgr10; clear hrow10 hgr10)
            gi_wp2_with fail
            have hgt : ∀ g, Value.ownBlock u6 = some g → ∃ c t f, (w4.alloc (.cells #[.int .i64 x.2.type, .slice r1 n4' t1, .slice r2 k2 t2, .slice r3 k3 t3, .slice r4 k4 t4] 77)).heap[g]? = some (.cells c t f) ∧ t ≠ 22 := fun g hg => by
              obtain ⟨c, f, h⟩ := HR5.out.typ hg
              exact ⟨c, _, f, h, by decide⟩
            refine ⟨⟨i + 1, ys ++ [([.int .i64 x.2.type, .slice r1 n4' t1, .slice r2 k2 t2, .slice r3 k3 t3, .slice r4 k4 t4], x.2)], hlt, by go_num, by simp; omega, ?_, ?_, ?_⟩, by simp [intOf]; omega⟩
            · refine ⟨?_, fun y hy => ?_, fun y hy => ?_⟩
              · rw [HTK.out]
                have := HI.out.1
                simp only [plD, List.map_append] at this ⊢
                rw [this]; rfl
              · rw [HTK.out, List.mem_append, List.mem_singleton] at hy
                rcases hy with hy | rfl
                · exact HI.out.2.1 y hy
                · exact HDF.out
              · rw [List.mem_append, List.mem_singleton] at hy
                rcases hy with hy | rfl
                · exact ((HI4.out y hy).below HBA.out).grown HGR10.out hgt
                · exact (HOD.out.below HBA.out).grown HGR10.out hgt
            · exact (below5 HB4.out HBA.out).grown HGR10.out (below5 HB4.out HBA.out).size (fun g hg => HR5.out.2 g hg)
            · have := HR10.out
              rw [List.length_append, List.map_append]
              exact this
        · have hlz : ¬ ((i : Int) < (l1.length : Int)) := by omega
          obtain rfl : i = l1.length := by omega
          have HB2 := Lib.hid hb
          have HX1 := HI.out
          rw [List.take_length] at HX1
          have HI1 := Lib.hid HX1
          obtain ⟨oy, cy, hvy⟩ : ∃ o c, u6 = .slice o ys.length c := hrow.form
          subst hvy
          have hbw : Below w.heap.size w wr := below5 (below5 HB1.out HBL0.out) hb
          have HBW := Lib.hid hbw
          have hra : ∀ x ∈ l0, RB x.2 := fun x hx => rb_of (by rw [(HN0.out x hx).1]; rfl) (HI0.out.2.1 x hx) ⟨by rw [(HN0.out x hx).2.1]; decide, (HN0.out x hx).2.2⟩
          have hrb : ∀ x ∈ l1, RB x.2 := fun x hx => rb_of (by rw [(HN1.out x hx).1]; rfl) (HX1.2.1 x hx) ⟨by rw [(HN1.out x hx).2.1]; decide, (HN1.out x hx).2.2⟩
          obtain ⟨L0, hL0, hP0⟩ := els_dat (W := w) (l := l0) (fun x hx => ⟨HV0.out.2 x hx, hra x hx, (HN0.out x hx).1, (HN0.out x hx).2.1⟩)
          obtain ⟨L1, hL1, hP1⟩ := els_dat (W := w) (l := l1) (fun x hx => ⟨HV1.out.2 x hx, hrb x hx, (HN1.out x hx).1, (HN1.out x hx).2.1⟩)
          have hg0 := HV0.out.1
          have hg1 := HV1.out.1
          rw [← hL0] at hg0
          rw [← hL1] at hg1
          have hl0 : L0.length = l0.length := by have := congrArg List.length hL0; simpa using this
          have hl1 : L1.length = l1.length := by have := congrArg List.length hL1; simpa using this
          obtain ⟨wn, hwn⟩ : ∃ W, wr.alloc (.cells #[S [113]] 9) = W := ⟨_, rfl⟩
          have hbn : Below wr.heap.size wr wn := by rw [← hwn]; exact (Below.refl _ _).alloc (Nat.le_refl _) _
          have hbwn := below5 hbw hbn
          have HEQ := Lib.hid (setEqual_any (w0 := wn) none 0 0 0 1 (some ⟨wr.heap.size, 0, none⟩) 1 1 0 0 (.slice o0 l0.length c0) (.slice o1 l1.length c1) L0 L1 hbwn ((datsRd_of hg0).below hbwn) ((datsRd_of hg1).below hbwn) (by omega) (by omega))
          rw [hP0, hP1, show ((1 : Nat) : Int) = 1 from rfl, show ((0 : Nat) : Int) = 0 from rfl] at HEQ
          have hmem : ∀ {A B : List RP}, plD A = plD B → (∀ x ∈ B, RB x.2) → ∀ x ∈ A, RB x.2 := fun {A B} e h x hx => by
            have h1 : x.2 ∈ plD A := List.mem_map.2 ⟨x, hx, rfl⟩
            rw [e] at h1
            obtain ⟨y, hy, e2⟩ := List.mem_map.1 h1
            rw [← e2]; exact h y hy
          have hdts : ∀ {R : Nat → Prop} {v : Value} {zs : List RP} {W : World}, Row R 77 5 v zs.length (zs.map (·.1)).flatten W → (∀ y ∈ zs, OfD w y.1 y.2 W) → Below w.heap.size w W → DtsRd v zs W := fun {R v zs W} hr ho hb => by
            refine ⟨Row.grd (by rw [List.length_map]; exact hr) (fun c hc => ?_), fun x hx => (ho x hx).dat hb⟩
            obtain ⟨x, hx, rfl⟩ := List.mem_map.1 hc
            exact (ho x hx).one hb
          have hx0 : DtsRd (.slice ox0 ys0.length cx0) ys0 wm := hdts HR0.out HI0.out.2.2 (below5 HB1.out HBL0.out)
          have hy0 : DtsRd (.slice oy ys.length cy) ys wr := hdts hrow HX1.2.2 hbw
          have HSD := Lib.hid (fun W' (hW : Below wr.heap.size wr W') => refSameDatas_any (.slice ox0 ys0.length cx0) (.slice oy ys.length cy) ys0 ys W' (hx0.below (below5 hb hW)) (hy0.below hW) (by have := HYL0.out; omega) (hmem HI0.out.1 hra) (hmem HX1.1 hrb))
          rw [HI0.out.1, HX1.1] at HSD
          obtain ⟨bq, hbq⟩ : ∃ bq, Rs.sameDats (plD l0) (plD l1) = bq := ⟨_, rfl⟩
          rw [hbq] at HEQ HSD
          have HWN := Lib.hid hwn
          have HBN := Lib.hid hbn
          clear HX1 hrow hbw hra hrb hg0 hg1 hL0 hL1 hP0 hP1 hwn hbn hbwn hmem hdts hx0 hy0 hbq HI HI0 HI1 HR0 hb hyl
          gi_wp2_with fail
          rw [HWN.out]
          (with_reducible refine (callsIn_wide.2 HEQ.out).mono ?_)
          rintro e w3 ⟨rfl, b3⟩
          have HB3 := Lib.hid (below5 HBN.out b3)
          have HS3 := Lib.hid (HSD.out w3 HB3.out)
          clear b3 HEQ HSD
          gi_wp2_with fail
          (with_reducible refine (callsIn_wide.2 HS3.out).mono ?_)
          rintro e w4 ⟨rfl, b4⟩
          have HB4 := Lib.hid (below5 HBW.out (below5 HB3.out b4))
          clear b4 HS3
          gi_wp2_with fail
          go_ret
          exact ⟨by simp, HB4.out⟩
end Go.Proofs.Ytneghhbclefmoaa
