/- Reports that are few and short. -/
import Derived.Test.YtjhibbjafjhhjaaDoorKTtE
namespace Go.Proofs.YtjhibbjafjhhjaaDoor
open Go.RowKit Go.Shelf
set_option maxRecDepth 100000
def Says (Q : Prop) (w : World) (e : Ending) (w' : World) : Prop := ∃ b, e = .returned (.bool b) /\ (b = true -> Q) /\ Below w.heap.size w w'
theorem Says.no {Q : Prop} {w w' : World} (h : Below w.heap.size w w') : Says Q w (.returned (.bool false)) w' := ⟨false, rfl, (fun h => by cases h), h⟩
theorem few_at {n : List (List UInt8)} {b : Bool} {v : Value} {w : World} (hv : Rd v n w) (h : Nm.few n = b) : Calls Tryd.prog 20 #[v] w (Gives (.bool b) w) := by
 rw [<- h]; exact few_any v n w hv
theorem all_of {α : Type} {p : α -> Prop} {l : List α} (h : ∀ j (hj : j < l.length), p l[j]) : ∀ x ∈ l, p x := fun x hx => by
 obtain ⟨j, hj, rfl⟩ := List.mem_iff_getElem.1 hx; exact h j hj
theorem all_next {α : Type} {p : α -> Prop} {l : List α} {k : Nat} (h : ∀ j (hj : j < l.length), j < k -> p l[j]) (hk : k < l.length) (hp : p l[k]) : ∀ j (hj : j < l.length), j < k + 1 -> p l[j] := fun j hj h1 => by
 by_cases e : j < k
 ·exact h j hj e
 ·obtain rfl : j = k := by omega
  exact hp
set_option maxHeartbeats 16000000 in
theorem repFew_any (ve vf vg vs : Value) (r : Tt.Rep) (w : World) (hR : RepRd ve vf vg vs r w) :
  Calls Tryd.prog 7 #[.agg #[ve, vf, vg, vs, .int .i64 r.err]] w (Says r.Ok w) := by
 obtain ⟨oe, ce, rfl⟩ := hR.e.form
 obtain ⟨of, cf, rfl⟩ := hR.f.form
 obtain ⟨og, cg, rfl⟩ := hR.g.form
 obtain ⟨os, cs, rfl⟩ := hR.s.form
 have HR := Lib.hid hR
 obtain ⟨ne, hne⟩ : ∃ n, r.es.length = n := ⟨_, rfl⟩
 obtain ⟨nf, hnf⟩ : ∃ n, r.fs.length = n := ⟨_, rfl⟩
 obtain ⟨ng, hng⟩ : ∃ n, r.gs.length = n := ⟨_, rfl⟩
 obtain ⟨ns, hns⟩ : ∃ n, r.ss.length = n := ⟨_, rfl⟩
 obtain ⟨ev, hev⟩ : ∃ z, r.err = z := ⟨_, rfl⟩
 rw [hne, hnf, hng, hns] at HR
 rw [hne, hnf, hng, hns, hev]
 have HNE := Lib.hid hne
 have HNF := Lib.hid hnf
 have HNG := Lib.hid hng
 have HNS := Lib.hid hns
 have HEV := Lib.hid hev
 have hrb := Blk.new w #[.slice oe ne ce, .slice of nf cf, .slice og ng cg, .slice os ns cs, .int .i64 ev] 30
 have hb0 : Below w.heap.size w (w.alloc (.cells #[.slice oe ne ce, .slice of nf cf, .slice og ng cg, .slice os ns cs, .int .i64 ev] 30)) := (Below.refl _ _).alloc (Nat.le_refl _) _
 obtain ⟨W0, hW0⟩ : ∃ x, w.alloc (.cells #[.slice oe ne ce, .slice of nf cf, .slice og ng cg, .slice os ns cs, .int .i64 ev] 30) = x := ⟨_, rfl⟩
 obtain ⟨B, hB⟩ : ∃ B, w.heap.size = B := ⟨_, rfl⟩
 rw [hW0] at hrb hb0
 rw [hB] at hrb
 have HRB := Lib.hid hrb
 have HB0 := Lib.hid hb0
 have HW0 := Lib.hid hW0
 have HBB := Lib.hid hB
 clear hrb hb0 hR hne hnf hng hns hev hW0 hB
 by_cases g0 : 10 < ne
 case pos =>
  have g0z : (10 : Int) < (ne : Int) := by omega
  have g0d : decide ((10 : Int) < (ne : Int)) = true := by simp; omega
  refine (callsIn_wide (n := 0)).1 ?_
  refine callsIn_of_wp Tryd.func7 rfl trivial ?_ rfl
  simp only [Tryd.ntmps7, List.size_toArray, List.length_cons, List.length_nil, Nat.reduceAdd, Nat.reduceSub, Array.replicate_succ, Array.replicate_zero, List.push_toArray, List.append_toArray, List.nil_append, List.cons_append]
  gi_wp2_with fail
  go_ret
  rw [HW0.out]
  exact Says.no HB0.out
 case neg =>
 have g0z : ¬ ((10 : Int) < (ne : Int)) := by omega
 have g0d : decide ((10 : Int) < (ne : Int)) = false := by simp; omega
 by_cases g1 : 10 < nf
 case pos =>
  have g1z : (10 : Int) < (nf : Int) := by omega
  have g1d : decide ((10 : Int) < (nf : Int)) = true := by simp; omega
  refine (callsIn_wide (n := 0)).1 ?_
  refine callsIn_of_wp Tryd.func7 rfl trivial ?_ rfl
  simp only [Tryd.ntmps7, List.size_toArray, List.length_cons, List.length_nil, Nat.reduceAdd, Nat.reduceSub, Array.replicate_succ, Array.replicate_zero, List.push_toArray, List.append_toArray, List.nil_append, List.cons_append]
  gi_wp2_with fail
  go_ret
  rw [HW0.out]
  exact Says.no HB0.out
 case neg =>
 have g1z : ¬ ((10 : Int) < (nf : Int)) := by omega
 have g1d : decide ((10 : Int) < (nf : Int)) = false := by simp; omega
 by_cases g2 : 10 < ng
 case pos =>
  have g2z : (10 : Int) < (ng : Int) := by omega
  have g2d : decide ((10 : Int) < (ng : Int)) = true := by simp; omega
  refine (callsIn_wide (n := 0)).1 ?_
  refine callsIn_of_wp Tryd.func7 rfl trivial ?_ rfl
  simp only [Tryd.ntmps7, List.size_toArray, List.length_cons, List.length_nil, Nat.reduceAdd, Nat.reduceSub, Array.replicate_succ, Array.replicate_zero, List.push_toArray, List.append_toArray, List.nil_append, List.cons_append]
  gi_wp2_with fail
  go_ret
  rw [HW0.out]
  exact Says.no HB0.out
 case neg =>
 have g2z : ¬ ((10 : Int) < (ng : Int)) := by omega
 have g2d : decide ((10 : Int) < (ng : Int)) = false := by simp; omega
 by_cases g3 : 10 < ns
 case pos =>
  have g3z : (10 : Int) < (ns : Int) := by omega
  have g3d : decide ((10 : Int) < (ns : Int)) = true := by simp; omega
  refine (callsIn_wide (n := 0)).1 ?_
  refine callsIn_of_wp Tryd.func7 rfl trivial ?_ rfl
  simp only [Tryd.ntmps7, List.size_toArray, List.length_cons, List.length_nil, Nat.reduceAdd, Nat.reduceSub, Array.replicate_succ, Array.replicate_zero, List.push_toArray, List.append_toArray, List.nil_append, List.cons_append]
  gi_wp2_with fail
  go_ret
  rw [HW0.out]
  exact Says.no HB0.out
 case neg =>
 have g3z : ¬ ((10 : Int) < (ns : Int)) := by omega
 have g3d : decide ((10 : Int) < (ns : Int)) = false := by simp; omega
 refine (callsIn_wide (n := 0)).1 ?_
 refine callsIn_of_wp Tryd.func7 rfl trivial ?_ rfl
 simp only [Tryd.ntmps7, List.size_toArray, List.length_cons, List.length_nil, Nat.reduceAdd, Nat.reduceSub, Array.replicate_succ, Array.replicate_zero, List.push_toArray, List.append_toArray, List.nil_append, List.cons_append]
 gi_wp2_with fail
 rw [HW0.out, HBB.out]
 have HQ : Hid (Below W0.heap.size W0 W0) := Below.refl _ _
 gi_loopw [3] (fun vi A => ∃ k : Nat, k <= ne /\ vi = .int .i64 k /\ Hid (∀ j (h : j < r.es.length), j < k -> (r.es[j]).Ok) /\ Hid (Below W0.heap.size W0 A)) (fun vi _ => ne - (intOf vi).toNat)
 case atStart => exact ⟨0, Nat.zero_le _, rfl, (fun j _ h => by omega), HQ⟩
 case round =>
  obtain ⟨k, hk, rfl, HA, HQ1⟩ := hrel
  have cc0 : wr.cell? ⟨B, 0, none⟩ = some (.slice oe ne ce) := (HRB.out.below HQ1.out).cell 0
  have HBW := Lib.hid (below5 HB0.out HQ1.out)
  by_cases hlt : k < ne
  case pos =>
   have hlz : (k : Int) < (ne : Int) := by omega
   have hlen : k < r.es.length := by rw [HNE.out]; exact hlt
   obtain ⟨cs', z, henc, _, ⟨a, rfl, hz⟩, e0, e1⟩ := (HR.out.below HBW.out).e.at (by decide) k hlen
   obtain ⟨x, hx⟩ : ∃ x, r.es[k] = x := ⟨_, rfl⟩
   rw [hx] at henc
   have HX := Lib.hid hx
   clear hx
   obtain ⟨b, rfl, hbk⟩ := henc
   simp only [List.getElem?_cons_zero] at e0
   rw [Nat.mul_one] at hz
   subst hz
   obtain ⟨p, hp⟩ : ∃ p, x.path = p := ⟨_, rfl⟩
   obtain ⟨ln, hln⟩ : ∃ z, x.line = z := ⟨_, rfl⟩
   obtain ⟨er, her⟩ : ∃ z, x.err = z := ⟨_, rfl⟩
   rw [hp, hln, her] at hbk
   have d0 : wr.cell? ⟨b, 0, none⟩ = some (S p) := hbk.cell 0
   have d1 : wr.cell? ⟨b, 1, none⟩ = some (.int .i64 ln) := hbk.cell 1
   have d2 : wr.cell? ⟨b, 2, none⟩ = some (.int .i64 er) := hbk.cell 2
   have HF := Lib.hid (And.intro hp (And.intro hln her))
   clear hbk hp hln her e1
   by_cases q0 : (50 : Int) < (p.length : Int)
   case pos =>
    have q0d : decide ((50 : Int) < (p.length : Int)) = true := by simp; omega
    gi_wp2_with fail
    go_ret
    exact Says.no HBW.out
   case neg =>
   have q0d : decide ((50 : Int) < (p.length : Int)) = false := by simp; omega
   by_cases q1 : er < 1
   case pos =>
    have q1d : decide (er < 1) = true := by simp; omega
    gi_wp2_with fail
    go_ret
    exact Says.no HBW.out
   case neg =>
   have q1d : decide (er < 1) = false := by simp; omega
   by_cases q2 : 12 < er
   case pos =>
    have q2d : decide (12 < er) = true := by simp; omega
    gi_wp2_with fail
    go_ret
    exact Says.no HBW.out
   case neg =>
   have q2d : decide (12 < er) = false := by simp; omega
   by_cases q3 : ln < 0
   case pos =>
    have q3d : decide (ln < 0) = true := by simp; omega
    gi_wp2_with fail
    go_ret
    exact Says.no HBW.out
   case neg =>
   have q3d : decide (ln < 0) = false := by simp; omega
   by_cases q4 : 1099511627776 < ln
   case pos =>
    have q4d : decide (1099511627776 < ln) = true := by simp; omega
    gi_wp2_with fail
    go_ret
    exact Says.no HBW.out
   case neg =>
   have q4d : decide (1099511627776 < ln) = false := by simp; omega
   have hok : Hid (x.Ok) := ⟨by rw [HF.out.1]; omega, by rw [HF.out.2.1]; omega, by rw [HF.out.2.1]; omega, by rw [HF.out.2.2]; omega, by rw [HF.out.2.2]; omega⟩
   gi_wp2_with fail
   exact ⟨⟨k + 1, hlt, by go_num, all_next HA.out hlen (by rw [HX.out]; exact hok.out), HQ1⟩, by simp [intOf]; omega⟩
  case neg =>
   have hlz : ¬ ((k : Int) < (ne : Int)) := by omega
   have HALL0 : Hid (∀ y ∈ r.es, y.Ok) := Lib.hid (all_of (p := fun y => y.Ok) fun j hj => HA.out j hj (by rw [HNE.out] at hj; omega))
   have HQ2 := HQ1
   clear HQ HQ1
   have HQ := HQ2
   clear HQ2
   gi_wp2_with fail
   gi_loopw [4] (fun vi A => ∃ k : Nat, k <= nf /\ vi = .int .i64 k /\ Hid (∀ j (h : j < r.fs.length), j < k -> (r.fs[j]).Ok) /\ Hid (Below W0.heap.size W0 A)) (fun vi _ => nf - (intOf vi).toNat)
   case atStart => exact ⟨0, Nat.zero_le _, rfl, (fun j _ h => by omega), HQ⟩
   case round =>
    obtain ⟨k, hk, rfl, HA, HQ1⟩ := hrel
    have cc1 : wr.cell? ⟨B, 1, none⟩ = some (.slice of nf cf) := (HRB.out.below HQ1.out).cell 1
    have HBW := Lib.hid (below5 HB0.out HQ1.out)
    by_cases hlt : k < nf
    case pos =>
     have hlz : (k : Int) < (nf : Int) := by omega
     have hlen : k < r.fs.length := by rw [HNF.out]; exact hlt
     obtain ⟨cs', z, henc, _, ⟨a, rfl, hz⟩, e0, e1⟩ := (HR.out.below HBW.out).f.at (by decide) k hlen
     obtain ⟨x, hx⟩ : ∃ x, r.fs[k] = x := ⟨_, rfl⟩
     rw [hx] at henc
     have HX := Lib.hid hx
     clear hx
     obtain ⟨v1, rfl, h1⟩ := henc
     have e_1 := e1 1 (by decide) (by decide)
     have e_2 := e1 2 (by decide) (by decide)
     simp only [List.getElem?_cons_zero, List.getElem?_cons_succ] at e0 e_1 e_2
     have hz' : a.add (k * 3) = z := hz.symm
     clear hz e1
     obtain ⟨n0, hn0⟩ : ∃ z, x.kind = z := ⟨_, rfl⟩
     rw [hn0] at e0
     obtain ⟨p1, c1, rfl, _, _⟩ := h1.form
     obtain ⟨l1, hl1⟩ : ∃ n, x.owner.length = n := ⟨_, rfl⟩
     rw [hl1] at e_1 h1
     have HR1 := Lib.hid h1
     obtain ⟨n2, hn2⟩ : ∃ z, x.type = z := ⟨_, rfl⟩
     rw [hn2] at e_2
     have HF := Lib.hid (And.intro hn0 hn2)
     clear hn0 hn2 h1 hl1
     gi_wp2_with fail
     have HB_0 : Hid (Below wr.heap.size wr wr) := Below.refl _ _
     obtain ⟨f1, hf1⟩ : ∃ b, Nm.few x.owner = b := ⟨_, rfl⟩
     refine (callsIn_wide.2 (few_at (HR1.out.below HB_0.out) hf1)).mono ?_
     rintro e w_1 ⟨rfl, b2⟩
     have HB_1 := Lib.hid (below5 HB_0.out b2)
     have HFE1 := Lib.hid hf1
     clear hf1 b2
     have e0_1 := (HB_1.out.cell (cell_lt e0)).trans e0
     have e_1_1 := (HB_1.out.cell (cell_lt e_1)).trans e_1
     have e_2_1 := (HB_1.out.cell (cell_lt e_2)).trans e_2
     have cc1_1 := (HB_1.out.cell (cell_lt cc1)).trans cc1
     by_cases ff1 : f1 = true
     case neg =>
      obtain rfl : f1 = false := by simpa using ff1
      gi_wp2_with fail
      go_ret
      exact Says.no (below5 HBW.out HB_1.out)
     case pos =>
     subst ff1
     by_cases q0 : n0 < 1
     case pos =>
      have q0d : decide (n0 < 1) = true := by simp; omega
      gi_wp2_with fail
      go_ret
      exact Says.no (below5 HBW.out HB_1.out)
     case neg =>
     have q0d : decide (n0 < 1) = false := by simp; omega
     by_cases q1 : 9 < n0
     case pos =>
      have q1d : decide (9 < n0) = true := by simp; omega
      gi_wp2_with fail
      go_ret
      exact Says.no (below5 HBW.out HB_1.out)
     case neg =>
     have q1d : decide (9 < n0) = false := by simp; omega
     by_cases q2 : n2 < 1
     case pos =>
      have q2d : decide (n2 < 1) = true := by simp; omega
      gi_wp2_with fail
      go_ret
      exact Says.no (below5 HBW.out HB_1.out)
     case neg =>
     have q2d : decide (n2 < 1) = false := by simp; omega
     by_cases q3 : 65535 < n2
     case pos =>
      have q3d : decide (65535 < n2) = true := by simp; omega
      gi_wp2_with fail
      go_ret
      exact Says.no (below5 HBW.out HB_1.out)
     case neg =>
     have q3d : decide (65535 < n2) = false := by simp; omega
     have hok : Hid (x.Ok) := ⟨NB.few HFE1.out, by rw [HF.out.1]; omega, by rw [HF.out.1]; omega, by rw [HF.out.2]; omega, by rw [HF.out.2]; omega⟩
     gi_wp2_with fail
     exact ⟨⟨k + 1, hlt, by go_num, all_next HA.out hlen (by rw [HX.out]; exact hok.out), Lib.hid (below5 HQ1.out HB_1.out)⟩, by simp [intOf]; omega⟩
    case neg =>
     have hlz : ¬ ((k : Int) < (nf : Int)) := by omega
     have HALL1 : Hid (∀ y ∈ r.fs, y.Ok) := Lib.hid (all_of (p := fun y => y.Ok) fun j hj => HA.out j hj (by rw [HNF.out] at hj; omega))
     have HQ2 := HQ1
     clear HQ HQ1
     have HQ := HQ2
     clear HQ2
     gi_wp2_with fail
     gi_loopw [5] (fun vi A => ∃ k : Nat, k <= ng /\ vi = .int .i64 k /\ Hid (∀ j (h : j < r.gs.length), j < k -> (r.gs[j]).Ok) /\ Hid (Below W0.heap.size W0 A)) (fun vi _ => ng - (intOf vi).toNat)
     case atStart => exact ⟨0, Nat.zero_le _, rfl, (fun j _ h => by omega), HQ⟩
     case round =>
      obtain ⟨k, hk, rfl, HA, HQ1⟩ := hrel
      have cc2 : wr.cell? ⟨B, 2, none⟩ = some (.slice og ng cg) := (HRB.out.below HQ1.out).cell 2
      have HBW := Lib.hid (below5 HB0.out HQ1.out)
      by_cases hlt : k < ng
      case pos =>
       have hlz : (k : Int) < (ng : Int) := by omega
       have hlen : k < r.gs.length := by rw [HNG.out]; exact hlt
       obtain ⟨cs', z, henc, _, ⟨a, rfl, hz⟩, e0, e1⟩ := (HR.out.below HBW.out).g.at (by decide) k hlen
       obtain ⟨x, hx⟩ : ∃ x, r.gs[k] = x := ⟨_, rfl⟩
       rw [hx] at henc
       have HX := Lib.hid hx
       clear hx
       obtain ⟨v1, v2, v3, rfl, h1, h2, h3⟩ := henc
       have e_1 := e1 1 (by decide) (by decide)
       have e_2 := e1 2 (by decide) (by decide)
       have e_3 := e1 3 (by decide) (by decide)
       have e_4 := e1 4 (by decide) (by decide)
       simp only [List.getElem?_cons_zero, List.getElem?_cons_succ] at e0 e_1 e_2 e_3 e_4
       have hz' : a.add (k * 5) = z := hz.symm
       clear hz e1
       obtain ⟨n0, hn0⟩ : ∃ z, x.kind = z := ⟨_, rfl⟩
       rw [hn0] at e0
       obtain ⟨p1, c1, rfl, _, _⟩ := h1.form
       obtain ⟨l1, hl1⟩ : ∃ n, x.parent.length = n := ⟨_, rfl⟩
       rw [hl1] at e_1 h1
       have HR1 := Lib.hid h1
       obtain ⟨p2, c2, rfl, _, _⟩ := h2.form
       obtain ⟨l2, hl2⟩ : ∃ n, x.child.length = n := ⟨_, rfl⟩
       rw [hl2] at e_2 h2
       have HR2 := Lib.hid h2
       obtain ⟨p3, c3, rfl, _, _⟩ := h3.form
       obtain ⟨l3, hl3⟩ : ∃ n, x.host.length = n := ⟨_, rfl⟩
       rw [hl3] at e_3 h3
       have HR3 := Lib.hid h3
       obtain ⟨n4, hn4⟩ : ∃ z, x.server = z := ⟨_, rfl⟩
       rw [hn4] at e_4
       have HF := Lib.hid (And.intro hn0 hn4)
       clear hn0 hn4 h1 hl1 h2 hl2 h3 hl3
       gi_wp2_with fail
       have hfb := Blk.new wr #[.int .i64 n0, .slice p1 l1 c1, .slice p2 l2 c2, .slice p3 l3 c3, .int .i64 n4] 55
       have hfa : Below wr.heap.size wr (wr.alloc (.cells #[.int .i64 n0, .slice p1 l1 c1, .slice p2 l2 c2, .slice p3 l3 c3, .int .i64 n4] 55)) := (Below.refl _ _).alloc (Nat.le_refl _) _
       obtain ⟨Wf, hWf⟩ : ∃ x, wr.alloc (.cells #[.int .i64 n0, .slice p1 l1 c1, .slice p2 l2 c2, .slice p3 l3 c3, .int .i64 n4] 55) = x := ⟨_, rfl⟩
       obtain ⟨fb, hfb'⟩ : ∃ b, wr.heap.size = b := ⟨_, rfl⟩
       rw [hWf] at hfb
       rw [hWf] at hfa
       rw [hfb'] at hfb
       rw [hWf, hfb']
       have HFB_0 := Lib.hid hfb
       have HB_0 := Lib.hid hfa
       clear hfb hfa hWf hfb'
       obtain ⟨f1, hf1⟩ : ∃ b, Nm.few x.parent = b := ⟨_, rfl⟩
       refine (callsIn_wide.2 (few_at (HR1.out.below HB_0.out) hf1)).mono ?_
       rintro e w_1 ⟨rfl, b2⟩
       have HB_1 := Lib.hid (below5 HB_0.out b2)
       have HFB_1 := Lib.hid (HFB_0.out.below b2)
       have HFE1 := Lib.hid hf1
       clear hf1 b2
       have k0_1 : w_1.cell? ⟨fb, 0, none⟩ = some (.int .i64 n0) := HFB_1.out.cell 0
       have k1_1 : w_1.cell? ⟨fb, 1, none⟩ = some (.slice p1 l1 c1) := HFB_1.out.cell 1
       have k2_1 : w_1.cell? ⟨fb, 2, none⟩ = some (.slice p2 l2 c2) := HFB_1.out.cell 2
       have k3_1 : w_1.cell? ⟨fb, 3, none⟩ = some (.slice p3 l3 c3) := HFB_1.out.cell 3
       have k4_1 : w_1.cell? ⟨fb, 4, none⟩ = some (.int .i64 n4) := HFB_1.out.cell 4
       by_cases ff1 : f1 = true
       case neg =>
        obtain rfl : f1 = false := by simpa using ff1
        gi_wp2_with fail
        go_ret
        exact Says.no (below5 HBW.out HB_1.out)
       case pos =>
       subst ff1
       gi_wp2_with fail
       clear k0_1 k1_1 k2_1 k3_1 k4_1
       obtain ⟨f2, hf2⟩ : ∃ b, Nm.few x.child = b := ⟨_, rfl⟩
       refine (callsIn_wide.2 (few_at (HR2.out.below HB_1.out) hf2)).mono ?_
       rintro e w_2 ⟨rfl, b2⟩
       have HB_2 := Lib.hid (below5 HB_1.out b2)
       have HFB_2 := Lib.hid (HFB_1.out.below b2)
       have HFE2 := Lib.hid hf2
       clear hf2 b2
       have k0_2 : w_2.cell? ⟨fb, 0, none⟩ = some (.int .i64 n0) := HFB_2.out.cell 0
       have k1_2 : w_2.cell? ⟨fb, 1, none⟩ = some (.slice p1 l1 c1) := HFB_2.out.cell 1
       have k2_2 : w_2.cell? ⟨fb, 2, none⟩ = some (.slice p2 l2 c2) := HFB_2.out.cell 2
       have k3_2 : w_2.cell? ⟨fb, 3, none⟩ = some (.slice p3 l3 c3) := HFB_2.out.cell 3
       have k4_2 : w_2.cell? ⟨fb, 4, none⟩ = some (.int .i64 n4) := HFB_2.out.cell 4
       by_cases ff2 : f2 = true
       case neg =>
        obtain rfl : f2 = false := by simpa using ff2
        gi_wp2_with fail
        go_ret
        exact Says.no (below5 HBW.out HB_2.out)
       case pos =>
       subst ff2
       gi_wp2_with fail
       clear k0_2 k1_2 k2_2 k3_2 k4_2
       obtain ⟨f3, hf3⟩ : ∃ b, Nm.few x.host = b := ⟨_, rfl⟩
       refine (callsIn_wide.2 (few_at (HR3.out.below HB_2.out) hf3)).mono ?_
       rintro e w_3 ⟨rfl, b2⟩
       have HB_3 := Lib.hid (below5 HB_2.out b2)
       have HFB_3 := Lib.hid (HFB_2.out.below b2)
       have HFE3 := Lib.hid hf3
       clear hf3 b2
       have k0_3 : w_3.cell? ⟨fb, 0, none⟩ = some (.int .i64 n0) := HFB_3.out.cell 0
       have k1_3 : w_3.cell? ⟨fb, 1, none⟩ = some (.slice p1 l1 c1) := HFB_3.out.cell 1
       have k2_3 : w_3.cell? ⟨fb, 2, none⟩ = some (.slice p2 l2 c2) := HFB_3.out.cell 2
       have k3_3 : w_3.cell? ⟨fb, 3, none⟩ = some (.slice p3 l3 c3) := HFB_3.out.cell 3
       have k4_3 : w_3.cell? ⟨fb, 4, none⟩ = some (.int .i64 n4) := HFB_3.out.cell 4
       by_cases ff3 : f3 = true
       case neg =>
        obtain rfl : f3 = false := by simpa using ff3
        gi_wp2_with fail
        go_ret
        exact Says.no (below5 HBW.out HB_3.out)
       case pos =>
       subst ff3
       by_cases q0 : n0 < 1
       case pos =>
        have q0d : decide (n0 < 1) = true := by simp; omega
        gi_wp2_with fail
        go_ret
        exact Says.no (below5 HBW.out HB_3.out)
       case neg =>
       have q0d : decide (n0 < 1) = false := by simp; omega
       by_cases q1 : 4 < n0
       case pos =>
        have q1d : decide (4 < n0) = true := by simp; omega
        gi_wp2_with fail
        go_ret
        exact Says.no (below5 HBW.out HB_3.out)
       case neg =>
       have q1d : decide (4 < n0) = false := by simp; omega
       by_cases q2 : n4 < 0
       case pos =>
        have q2d : decide (n4 < 0) = true := by simp; omega
        gi_wp2_with fail
        go_ret
        exact Says.no (below5 HBW.out HB_3.out)
       case neg =>
       have q2d : decide (n4 < 0) = false := by simp; omega
       by_cases q3 : 1099511627776 < n4
       case pos =>
        have q3d : decide (1099511627776 < n4) = true := by simp; omega
        gi_wp2_with fail
        go_ret
        exact Says.no (below5 HBW.out HB_3.out)
       case neg =>
       have q3d : decide (1099511627776 < n4) = false := by simp; omega
       have hok : Hid (x.Ok) := ⟨NB.few HFE1.out, NB.few HFE2.out, NB.few HFE3.out, by rw [HF.out.1]; omega, by rw [HF.out.1]; omega, by rw [HF.out.2]; omega, by rw [HF.out.2]; omega⟩
       gi_wp2_with fail
       exact ⟨⟨k + 1, hlt, by go_num, all_next HA.out hlen (by rw [HX.out]; exact hok.out), Lib.hid (below5 HQ1.out HB_3.out)⟩, by simp [intOf]; omega⟩
      case neg =>
       have hlz : ¬ ((k : Int) < (ng : Int)) := by omega
       have HALL2 : Hid (∀ y ∈ r.gs, y.Ok) := Lib.hid (all_of (p := fun y => y.Ok) fun j hj => HA.out j hj (by rw [HNG.out] at hj; omega))
       have HQ2 := HQ1
       clear HQ HQ1
       have HQ := HQ2
       clear HQ2
       gi_wp2_with fail
       gi_loopw [7] (fun vi A => ∃ k : Nat, k <= ns /\ vi = .int .i64 k /\ Hid (∀ j (h : j < r.ss.length), j < k -> (r.ss[j]).Ok) /\ Hid (Below W0.heap.size W0 A)) (fun vi _ => ns - (intOf vi).toNat)
       case atStart => exact ⟨0, Nat.zero_le _, rfl, (fun j _ h => by omega), HQ⟩
       case round =>
        obtain ⟨k, hk, rfl, HA, HQ1⟩ := hrel
        have cc3 : wr.cell? ⟨B, 3, none⟩ = some (.slice os ns cs) := (HRB.out.below HQ1.out).cell 3
        have HBW := Lib.hid (below5 HB0.out HQ1.out)
        by_cases hlt : k < ns
        case pos =>
         have hlz : (k : Int) < (ns : Int) := by omega
         have hlen : k < r.ss.length := by rw [HNS.out]; exact hlt
         obtain ⟨cs', z, henc, _, ⟨a, rfl, hz⟩, e0, e1⟩ := (HR.out.below HBW.out).s.at (by decide) k hlen
         obtain ⟨x, hx⟩ : ∃ x, r.ss[k] = x := ⟨_, rfl⟩
         rw [hx] at henc
         have HX := Lib.hid hx
         clear hx
         obtain ⟨v1, v3, rfl, h1, h3⟩ := henc
         have e_1 := e1 1 (by decide) (by decide)
         have e_2 := e1 2 (by decide) (by decide)
         have e_3 := e1 3 (by decide) (by decide)
         simp only [List.getElem?_cons_zero, List.getElem?_cons_succ] at e0 e_1 e_2 e_3
         have hz' : a.add (k * 4) = z := hz.symm
         clear hz e1
         obtain ⟨n0, hn0⟩ : ∃ z, x.kind = z := ⟨_, rfl⟩
         rw [hn0] at e0
         obtain ⟨p1, c1, rfl, _, _⟩ := h1.form
         obtain ⟨l1, hl1⟩ : ∃ n, x.name.length = n := ⟨_, rfl⟩
         rw [hl1] at e_1 h1
         have HR1 := Lib.hid h1
         obtain ⟨n2, hn2⟩ : ∃ z, x.type = z := ⟨_, rfl⟩
         rw [hn2] at e_2
         obtain ⟨p3, c3, rfl, _, _, _, hsl⟩ := h3
         rw [List.length_map] at e_3
         obtain ⟨l3, hl3⟩ : ∃ n, x.picks.length = n := ⟨_, rfl⟩
         rw [hl3] at e_3
         have HSL := Lib.hid hsl
         have HL3 := Lib.hid hl3
         clear hsl hl3
         have HF := Lib.hid (And.intro hn0 hn2)
         clear hn0 hn2 h1 hl1
         gi_wp2_with fail
         have hfb := Blk.new wr #[.int .i64 n0, .slice p1 l1 c1, .int .i64 n2, .slice p3 l3 c3] 44
         have hfa : Below wr.heap.size wr (wr.alloc (.cells #[.int .i64 n0, .slice p1 l1 c1, .int .i64 n2, .slice p3 l3 c3] 44)) := (Below.refl _ _).alloc (Nat.le_refl _) _
         obtain ⟨Wf, hWf⟩ : ∃ x, wr.alloc (.cells #[.int .i64 n0, .slice p1 l1 c1, .int .i64 n2, .slice p3 l3 c3] 44) = x := ⟨_, rfl⟩
         obtain ⟨fb, hfb'⟩ : ∃ b, wr.heap.size = b := ⟨_, rfl⟩
         rw [hWf] at hfb
         rw [hWf] at hfa
         rw [hfb'] at hfb
         rw [hWf, hfb']
         have HFB_0 := Lib.hid hfb
         have HB_0 := Lib.hid hfa
         clear hfb hfa hWf hfb'
         obtain ⟨f1, hf1⟩ : ∃ b, Nm.few x.name = b := ⟨_, rfl⟩
         refine (callsIn_wide.2 (few_at (HR1.out.below HB_0.out) hf1)).mono ?_
         rintro e w_1 ⟨rfl, b2⟩
         have HB_1 := Lib.hid (below5 HB_0.out b2)
         have HFB_1 := Lib.hid (HFB_0.out.below b2)
         have HFE1 := Lib.hid hf1
         clear hf1 b2
         have k0_1 : w_1.cell? ⟨fb, 0, none⟩ = some (.int .i64 n0) := HFB_1.out.cell 0
         have k1_1 : w_1.cell? ⟨fb, 1, none⟩ = some (.slice p1 l1 c1) := HFB_1.out.cell 1
         have k2_1 : w_1.cell? ⟨fb, 2, none⟩ = some (.int .i64 n2) := HFB_1.out.cell 2
         have k3_1 : w_1.cell? ⟨fb, 3, none⟩ = some (.slice p3 l3 c3) := HFB_1.out.cell 3
         by_cases ff1 : f1 = true
         case neg =>
          obtain rfl : f1 = false := by simpa using ff1
          gi_wp2_with fail
          go_ret
          exact Says.no (below5 HBW.out HB_1.out)
         case pos =>
         subst ff1
         by_cases q0 : (20 : Int) < (l3 : Int)
         case pos =>
          have q0d : decide ((20 : Int) < (l3 : Int)) = true := by simp; omega
          gi_wp2_with fail
          go_ret
          exact Says.no (below5 HBW.out HB_1.out)
         case neg =>
         have q0d : decide ((20 : Int) < (l3 : Int)) = false := by simp; omega
         by_cases q1 : n0 < 1
         case pos =>
          have q1d : decide (n0 < 1) = true := by simp; omega
          gi_wp2_with fail
          go_ret
          exact Says.no (below5 HBW.out HB_1.out)
         case neg =>
         have q1d : decide (n0 < 1) = false := by simp; omega
         by_cases q2 : 9 < n0
         case pos =>
          have q2d : decide (9 < n0) = true := by simp; omega
          gi_wp2_with fail
          go_ret
          exact Says.no (below5 HBW.out HB_1.out)
         case neg =>
         have q2d : decide (9 < n0) = false := by simp; omega
         by_cases q3 : n2 < 1
         case pos =>
          have q3d : decide (n2 < 1) = true := by simp; omega
          gi_wp2_with fail
          go_ret
          exact Says.no (below5 HBW.out HB_1.out)
         case neg =>
         have q3d : decide (n2 < 1) = false := by simp; omega
         by_cases q4 : 65535 < n2
         case pos =>
          have q4d : decide (65535 < n2) = true := by simp; omega
          gi_wp2_with fail
          go_ret
          exact Says.no (below5 HBW.out HB_1.out)
         case neg =>
         have q4d : decide (65535 < n2) = false := by simp; omega
         have hl20 : l3 <= 20 := by omega
         gi_wp2_with fail
         gi_loopw [9] (fun v9 A => ∃ kp : Nat, kp <= l3 /\ v9 = .int .i64 kp /\ Hid (∀ j (h : j < x.picks.length), j < kp -> 0 <= x.picks[j] /\ x.picks[j] <= 1099511627776) /\ Hid (Below w_1.heap.size w_1 A)) (fun v9 _ => l3 - (intOf v9).toNat)
         case atStart => exact ⟨0, Nat.zero_le _, rfl, (fun j _ h => by omega), Below.refl _ _⟩
         case round =>
          obtain ⟨kp, hkp, rfl, HAP, HQP⟩ := hrel
          obtain ⟨wq, hwq⟩ : ∃ x, x = wr := ⟨_, rfl⟩
          rw [<- hwq] at HQP ⊢
          clear hwq
          have cfp : wq.cell? ⟨fb, 3, none⟩ = some (.slice p3 l3 c3) := (HFB_1.out.below HQP.out).cell 3
          have HBQ := Lib.hid (below5 HB_1.out HQP.out)
          by_cases hltp : kp < l3
          case pos =>
           have hlzp : (kp : Int) < (l3 : Int) := by omega
           have hkl : kp < x.picks.length := by rw [HL3.out]; exact hltp
           obtain ⟨ap, rfl, cp⟩ := HSL.out kp (by rw [List.length_map]; exact hkl)
           obtain ⟨px, hpx⟩ : ∃ z, x.picks[kp] = z := ⟨_, rfl⟩
           rw [List.getElem_map, hpx] at cp
           have cq : wq.cell? (ap.add kp) = some (.int .i64 px) := (HBQ.out.cell (cell_lt cp)).trans cp
           have HPX := Lib.hid hpx
           clear hpx cp
           by_cases r0 : px < 0
           case pos =>
            have r0d : decide (px < 0) = true := by simp; omega
            gi_wp2_with fail
            go_ret
            exact Says.no (below5 HBW.out HBQ.out)
           case neg =>
           have r0d : decide (px < 0) = false := by simp; omega
           by_cases r1 : 1099511627776 < px
           case pos =>
            have r1d : decide (1099511627776 < px) = true := by simp; omega
            gi_wp2_with fail
            go_ret
            exact Says.no (below5 HBW.out HBQ.out)
           case neg =>
           have r1d : decide (1099511627776 < px) = false := by simp; omega
           gi_wp2_with fail
           exact ⟨⟨kp + 1, hltp, by go_num, all_next (p := fun z => 0 <= z /\ z <= 1099511627776) HAP.out hkl (by rw [HPX.out]; omega), HQP⟩, by simp [intOf]; omega⟩
          case neg =>
           have hlzp : ¬ ((kp : Int) < (l3 : Int)) := by omega
           have hok : Hid (x.Ok) := ⟨NB.few HFE1.out, by rw [HL3.out]; exact hl20, by rw [HF.out.1]; omega, by rw [HF.out.1]; omega, by rw [HF.out.2]; omega, by rw [HF.out.2]; omega, all_of (p := fun z => 0 <= z /\ z <= 1099511627776) fun j hj => HAP.out j hj (by rw [HL3.out] at hj; omega)⟩
           gi_wp2_with fail
           exact ⟨⟨k + 1, hlt, by go_num, all_next HA.out hlen (by rw [HX.out]; exact hok.out), Lib.hid (below5 HQ1.out HBQ.out)⟩, by simp [intOf]; omega⟩
        case neg =>
         have hlz : ¬ ((k : Int) < (ns : Int)) := by omega
         have HALL3 : Hid (∀ y ∈ r.ss, y.Ok) := Lib.hid (all_of (p := fun y => y.Ok) fun j hj => HA.out j hj (by rw [HNS.out] at hj; omega))
         have HQ2 := HQ1
         clear HQ HQ1
         have HQ := HQ2
         clear HQ2
         have c4 : wr.cell? ⟨B, 4, none⟩ = some (.int .i64 ev) := (HRB.out.below HQ.out).cell 4
         by_cases z0 : 0 <= ev
         case neg =>
          have z0d : decide (0 <= ev) = false := by simp; omega
          have z0n : ¬ (0 <= ev) := by omega
          gi_wp2_with fail
          go_ret
          exact Says.no HBW.out
         case pos =>
         have z0d : decide (0 <= ev) = true := by simp; omega
         by_cases z1 : ev <= 12
         case neg =>
          have z1d : decide (ev <= 12) = false := by simp; omega
          gi_wp2_with fail
          go_ret
          exact Says.no HBW.out
         case pos =>
         have z1d : decide (ev <= 12) = true := by simp; omega
         have hok : Hid (r.Ok) := ⟨by rw [HNE.out]; omega, by rw [HNF.out]; omega, by rw [HNG.out]; omega, by rw [HNS.out]; omega, HALL0.out, HALL1.out, HALL2.out, HALL3.out, by rw [HEV.out]; omega, by rw [HEV.out]; omega⟩
         gi_wp2_with fail
         go_ret
         exact ⟨true, rfl, fun _ => hok.out, HBW.out⟩
end Go.Proofs.YtjhibbjafjhhjaaDoor
