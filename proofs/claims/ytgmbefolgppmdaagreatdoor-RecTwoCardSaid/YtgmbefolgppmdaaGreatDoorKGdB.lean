/- Data and records as the document's. -/
import Derived.Test.YtgmbefolgppmdaaGreatDoorKGdA
import Derived.Test.YtgmbefolgppmdaaGreatDoorKReg
section
namespace Go.Proofs.YtgmbefolgppmdaaGreatDoor
open Go.RowKit Go.Shelf Go.Sort
set_option maxRecDepth 100000
theorem Row.sl {R e v xs W} (h : Row R e 1 v xs.length xs W) : Sl v xs W := by
 obtain ⟨⟨hl, ho⟩, _⟩ := h
 rcases ho with ⟨rfl, h0⟩ | ⟨g, cap, cur, rfl, _, hg, h1, h2, h3, h4⟩
 ·have : xs = [] := List.length_eq_zero_iff.1 h0
  subst this; exact Sl.nil W
 ·refine ⟨some ⟨g, 0, none⟩, cap, rfl, h1, h2, (fun h => by cases h), fun j hj => ⟨_, rfl, ?_⟩⟩
  have hadd : (⟨g, 0, none⟩ : Addr).add j = ⟨g, j, none⟩ := by unfold Addr.add; split <;> simp_all
  rw [hadd, cell_of_row W g j _ _ _ hg]
  have := congrArg (fun l => l[j]?) h4
  simp only [List.getElem?_take, Nat.mul_one, hj, if_true] at this
  rw [<- List.getElem?_eq_getElem hj, <- this]
  simp
theorem info_nm : (Tryz.prog.info? 22).map (fun i => (i.zero, i.size, i.bytes)) = some (some (.slice none 0 0), 1, 24) := by kernel_rfl
def OfS (B : Nat) (vl : Value) (xv : Value) (a : Addr) (v : Value) (W : World) : Prop := W.cell? ⟨B, 1, none⟩ = some vl /\ W.cell? ⟨B + 2, 1, none⟩ = some xv /\ W.cell? a = some v
set_option maxHeartbeats 2000000 in
theorem of4_any (vn vm vt vr : Value) (us : List Value) (t : Int) (w0 : World) (h1 : Sl vn us w0) (hsl : ∀ u ∈ us, ∃ o l c, u = .slice o l c) (hvm : ∃ o l c, vm = .slice o l c) (hvt : ∃ o l c, vt = .slice o l c) (hvr : ∃ o l c, vr = .slice o l c) (hun : us.length <= 1000) :
  Calls Tryz.prog 20 #[.agg #[.int .i64 t, vn, vm, vt, vr]] w0 fun e w' => ∃ ox cx, e = .returned (.agg #[.int .i64 t, .slice ox us.length cx, vm, vt, vr]) /\
   Row (fun g => w0.heap.size + 3 <= g) 22 1 (.slice ox us.length cx) us.length us w' /\ Below w0.heap.size w0 w' := by
 obtain ⟨on, cn, rfl, c1, c1'⟩ := h1.form
 obtain ⟨om, lm, cm, rfl⟩ := hvm
 obtain ⟨ot, lt, ct, rfl⟩ := hvt
 obtain ⟨or, lr, cr, rfl⟩ := hvr
 have H1 := Lib.hid h1
 have HSL := Lib.hid hsl
 obtain ⟨ln, hln⟩ : ∃ ln, us.length = ln := ⟨_, rfl⟩
 rw [hln] at c1 hun ⊢
 have HL := Lib.hid hln
 have hnz : (ln : Int) <= 1000 := by omega
 clear h1 hln hsl
 obtain ⟨W2, hW2⟩ : ∃ W2, (w0.alloc (.cells #[.int .i64 t, .slice on ln cn, .slice om lm cm, .slice ot lt ct, .slice or lr cr] 29)).alloc (.cells #[.int .i64 0, .slice none 0 0, .slice none 0 0, .slice none 0 0, .slice none 0 0] 38) = W2 := ⟨_, rfl⟩
 obtain ⟨W3, hW3⟩ : ∃ W3, W2.alloc (.cells #[.int .i64 0, .slice none 0 0, .slice none 0 0, .slice none 0 0, .slice none 0 0] 38) = W3 := ⟨_, rfl⟩
 have s2 : W2.heap.size = w0.heap.size + 2 := by subst hW2; simp
 have hb2 : Below w0.heap.size w0 W2 := by subst hW2; exact ((Below.refl _ _).alloc (Nat.le_refl _) _).alloc (by simp) _
 have hb3 : Below w0.heap.size w0 W3 := by subst hW3; exact hb2.alloc (by omega) _
 have k0 : Blk w0.heap.size #[.int .i64 t, .slice on ln cn, .slice om lm cm, .slice ot lt ct, .slice or lr cr] 29 W3 := by subst hW3; subst hW2; exact ((Blk.new w0 _ _).alloc _).alloc _
 have k1 : Blk (w0.heap.size + 1) #[.int .i64 0, .slice none 0 0, .slice none 0 0, .slice none 0 0, .slice none 0 0] 38 W3 := by
  subst hW3; subst hW2
  have := (Blk.new (w0.alloc (.cells #[.int .i64 t, .slice on ln cn, .slice om lm cm, .slice ot lt ct, .slice or lr cr] 29)) #[.int .i64 0, .slice none 0 0, .slice none 0 0, .slice none 0 0, .slice none 0 0] 38).alloc (.cells #[.int .i64 0, .slice none 0 0, .slice none 0 0, .slice none 0 0, .slice none 0 0] 38)
  rwa [World.size_alloc] at this
 have k2 : Blk (w0.heap.size + 2) #[.int .i64 0, .slice none 0 0, .slice none 0 0, .slice none 0 0, .slice none 0 0] 38 W3 := by
  have := Blk.new W2 #[.int .i64 0, .slice none 0 0, .slice none 0 0, .slice none 0 0, .slice none 0 0] 38
  rwa [hW3, s2] at this
 have k0' : Blk w0.heap.size #[.int .i64 t, .slice on ln cn, .slice om lm cm, .slice ot lt ct, .slice or lr cr] 29 W2 := by subst hW2; exact (Blk.new w0 _ _).alloc _
 have d0 : W2.cell? ⟨w0.heap.size, 0, none⟩ = some _ := k0'.cell 0
 have d2 : W2.cell? ⟨w0.heap.size, 2, none⟩ = some _ := k0'.cell 2
 have d3 : W2.cell? ⟨w0.heap.size, 3, none⟩ = some _ := k0'.cell 3
 have d4 : W2.cell? ⟨w0.heap.size, 4, none⟩ = some _ := k0'.cell 4
 have a0 : W3.cell? ⟨w0.heap.size + 2, 0, none⟩ = some _ := k2.cell 0
 have a1 : W3.cell? ⟨w0.heap.size + 2, 1, none⟩ = some _ := k2.cell 1
 have a2 : W3.cell? ⟨w0.heap.size + 2, 2, none⟩ = some _ := k2.cell 2
 have a3 : W3.cell? ⟨w0.heap.size + 2, 3, none⟩ = some _ := k2.cell 3
 have a4 : W3.cell? ⟨w0.heap.size + 2, 4, none⟩ = some _ := k2.cell 4
 have z0 := k2.frozen 0
 have z1 := k2.frozen 1
 have z2 := k2.frozen 2
 have z3 := k2.frozen 3
 have z4 := k2.frozen 4
 obtain ⟨W4, hW4⟩ : ∃ W4, ((((W3.setCell ⟨w0.heap.size + 2, 0, none⟩ (.int .i64 t)).setCell ⟨w0.heap.size + 2, 1, none⟩ (.slice none 0 0)).setCell ⟨w0.heap.size + 2, 2, none⟩ (.slice om lm cm)).setCell ⟨w0.heap.size + 2, 3, none⟩ (.slice ot lt ct)).setCell ⟨w0.heap.size + 2, 4, none⟩ (.slice or lr cr) = W4 := ⟨_, rfl⟩
 have K0 : Hid (Blk w0.heap.size #[.int .i64 t, .slice on ln cn, .slice om lm cm, .slice ot lt ct, .slice or lr cr] 29 W4) := by
  subst hW4; exact ((((k0.set (by omega) _).set (by omega) _).set (by omega) _).set (by omega) _).set (by omega) _
 have K1 : Hid (Blk (w0.heap.size + 1) #[.int .i64 0, .slice none 0 0, .slice none 0 0, .slice none 0 0, .slice none 0 0] 38 W4) := by
  subst hW4; exact ((((k1.set (by omega) _).set (by omega) _).set (by omega) _).set (by omega) _).set (by omega) _
 have K2 : Hid (Blk (w0.heap.size + 2) #[.int .i64 t, .slice none 0 0, .slice om lm cm, .slice ot lt ct, .slice or lr cr] 38 W4) := by
  subst hW4; exact ((((k2.setAt 0 _).setAt 1 _).setAt 2 _).setAt 3 _).setAt 4 _
 have HB4 : Hid (Below w0.heap.size w0 W4) := by
  subst hW4
  exact ((((hb3.setCell (p := ⟨w0.heap.size + 2, 0, none⟩) (by simp) _).setCell (p := ⟨w0.heap.size + 2, 1, none⟩) (by simp) _).setCell (p := ⟨w0.heap.size + 2, 2, none⟩) (by simp) _).setCell (p := ⟨w0.heap.size + 2, 3, none⟩) (by simp) _).setCell (p := ⟨w0.heap.size + 2, 4, none⟩) (by simp) _
 have HS4 : Hid (w0.heap.size + 3 <= W4.heap.size) := by have := K2.out.lt; show _ <= _; omega
 clear hb2 hb3 k0 k1 k2 k0'
 have hW2' := hW2
 refine (callsIn_wide (n := 0)).1 ?_
 refine callsIn_of_wp Tryz.func20 rfl trivial ?_ rfl
 simp only [Tryz.ntmps20, List.size_toArray, List.length_cons, List.length_nil, Nat.reduceAdd, Nat.reduceSub, Array.replicate_succ, Array.replicate_zero, List.push_toArray, List.append_toArray, List.nil_append, List.cons_append]
 gi_wp2
 gi_loopw [4] (fun i wr => ∃ k : Nat, k <= ln /\ i = .int .i64 k /\ Below w0.heap.size w0 wr /\ w0.heap.size + 3 <= wr.heap.size /\ Blk w0.heap.size #[.int .i64 t, .slice on ln cn, .slice om lm cm, .slice ot lt ct, .slice or lr cr] 29 wr /\
   Blk (w0.heap.size + 1) #[.int .i64 0, .slice none 0 0, .slice none 0 0, .slice none 0 0, .slice none 0 0] 38 wr /\
   ∃ ox cx, Blk (w0.heap.size + 2) #[.int .i64 t, .slice ox k cx, .slice om lm cm, .slice ot lt ct, .slice or lr cr] 38 wr /\ Row (fun g => w0.heap.size + 3 <= g) 22 1 (.slice ox k cx) k (us.take k) wr) (fun i _ => ln - (intOf i).toNat)
 case atStart => exact ⟨0, Nat.zero_le _, rfl, HB4.out, HS4.out, K0.out, K1.out, none, 0, K2.out, Row.nil _ _ _ _⟩
 case round =>
  obtain ⟨k, hk, rfl, hb, hsz, hk0, hk1, ox, cx, hk2, hrow⟩ := hrel
  have q01 : wr.cell? ⟨w0.heap.size, 1, none⟩ = some _ := hk0.cell 1
  clear d0 d2 d3 d4 a0 a1 a2 a3 a4 z0 z1 z2 z3 z4 hW2 hW3 hW4 hW2'
  by_cases hlt : k < ln
  ·have hlz : (k : Int) < (ln : Int) := by omega
   have hku : k < us.length := by rw [HL.out]; exact hlt
   obtain ⟨v, hv⟩ : ∃ v, us[k] = v := ⟨_, rfl⟩
   have H1k : Hid (∀ W', Below w0.heap.size w0 W' -> ∃ a, on = some a /\ W'.cell? (a.add k) = some v) := fun W' hW => by
    have h := H1.out
    obtain ⟨a, ha, hc⟩ := h.cells W' hW k hku
    exact ⟨a, ha, by rw [hc, hv]⟩
   obtain ⟨a, rfl, y1⟩ := H1k.out _ hb
   obtain ⟨e, he⟩ : ∃ e, a.add k = e := ⟨_, rfl⟩
   rw [he] at y1
   have H1e : Hid (∀ W', Below w0.heap.size w0 W' -> W'.cell? e = some v) := fun W' hW => by
    obtain ⟨a', ha', hc⟩ := H1k.out _ hW
    cases ha'; rw [he] at hc; exact hc
   obtain ⟨ov, lv, cv, rfl⟩ : ∃ o l c, v = .slice o l c := HSL.out v (by rw [<- hv]; exact List.getElem_mem _)
   have HV := Lib.hid hv
   have HK0 := Lib.hid hk0
   have HK1 := Lib.hid hk1
   have HK2 := Lib.hid hk2
   have HRow := Lib.hid hrow
   have hSr : OfS w0.heap.size (.slice (some a) ln cn) (.slice ox k cx) e (.slice ov lv cv) wr := ⟨q01, hk2.cell 1, y1⟩
   clear hv hk0 hk1 hk2 hrow y1
   gi_wp2_with fail
   refine drawnH [0, 1, 2, 3, 4, 5, 6, 7, 8, 9] (OfS w0.heap.size (.slice (some a) ln cn) (.slice ox k cx) e (.slice ov lv cv)) 11 rfl (by kernel_rfl) ?_
   intro w3 hw3
   have hS : OfS w0.heap.size (.slice (some a) ln cn) (.slice ox k cx) e (.slice ov lv cv) w3 := by subst hw3; exact hSr
   have hb3 : Below wr.heap.size wr w3 := by subst hw3; exact (Below.refl _ _).drew
   clear hw3 hSr q01
   refine tH 0 ?qv0 hS (fun w1 ⟨g0, g1, g2⟩ => ?qy0) ?_
   case qy0 => go_simp; try rfl
   refine tH 2 ?qv2 hS (fun w1 ⟨g0, g1, g2⟩ => ?qy2) ?_
   case qy2 => go_simp; try rfl
   refine tH 4 ?qv4 hS (fun w1 ⟨g0, g1, g2⟩ => ?qy4) ?_
   case qy4 => go_simp; try rfl
   refine tH 3 ?qv3 hS (fun w1 ⟨g0, g1, g2⟩ => ?qy3) ?_
   case qy3 => go_simp; try rfl
   refine tH 5 ?qv5 hS (fun w1 ⟨g0, g1, g2⟩ => ?qy5) ?_
   case qy5 => go_simp; try rfl
   refine tH 1 ?qv1 hS (fun w1 ⟨g0, g1, g2⟩ => ?qy1) ?_
   case qy1 => go_simp; try rfl
   refine tH 6 ?qv6 hS (fun w1 ⟨g0, g1, g2⟩ => ?qy6) ?_
   case qy6 => go_simp; try rfl
   simp only [Act.put, List.setIfInBounds_toArray, List.set_cons_succ, List.set_cons_zero]
   refine oneH 7 (by rfl) (by kernel_rfl) (fun K hK => ?_)
   gi_wp2_with fail
   obtain ⟨W9, hW9⟩ : ∃ W9, w3.alloc (.cells #[.slice ov lv cv] 22) = W9 := ⟨_, rfl⟩
   rw [hW9]
   have hb9 : Below wr.heap.size wr W9 := by subst hW9; exact hb3.alloc hb3.size _
   have hMK : Hid (∀ W', Below wr.heap.size wr W' -> OfS w0.heap.size (.slice (some a) ln cn) (.slice ox k cx) e (.slice ov lv cv) W') := fun W' hW => ⟨(HK0.out.below hW).cell 1, (HK2.out.below hW).cell 1, H1e.out _ (hb.trans (hW.mono (by omega)))⟩
   have hnew : W9.cell? ⟨w3.heap.size, 0, none⟩ = some (.slice ov lv cv) := by subst hW9; exact (Box.new w3 22 (.slice ov lv cv)).cell
   have hs9 : wr.heap.size + 1 <= W9.heap.size := by subst hW9; have := hb3.size; simp; omega
   refine hK _ _ (fun _ => hMK.out _ hb9) ?_
   clear hK K hW9 hS
   have hrow9 := HRow.out.below hb9
   obtain ⟨i0, hi, hz0, hz1, hz2⟩ := info_parts info_nm
   have HI := Lib.hid (And.intro hi (And.intro hz0 (And.intro hz1 hz2)))
   clear hi hz0 hz1 hz2
   have hcell1 : ∀ (j : Nat) (u : Value), [Value.slice ov lv cv][j]? = some u -> W9.cell? ((⟨w3.heap.size, 0, none⟩ : Addr).add j) = some u := fun j u hj => by
    rcases j with _ | j
    ·cases hj; exact hnew
    ·cases hj
   have hl1 : k + 1 <= maxLen /\ (k + 1) * 24 <= 140737488355328 := by unfold maxLen; omega
   refine oneH 8 (by rfl) (by kernel_rfl) (fun K hK => ?_)
   gi_wp2_with (gi_at_builtin; refine append_in (fun g => w0.heap.size + 3 <= g) rfl _ _ _ rfl 22 i0 _ 1 24 Tryz.underlying36 HI.out.1 HI.out.2.1 HI.out.2.2.1 HI.out.2.2.2 rfl (by decide) _ k (us.take k) (by rfl) hrow9 ⟨w3.heap.size, 0, none⟩ 1 1 [.slice ov lv cv] (by rfl) rfl hcell1 (fun u hu => by rw [List.mem_singleton] at hu; subst hu; rfl) hl1.1 hl1.2 (by omega) ?_; intro v10 w10 hrow10 hgr10 _)
   have hbg : Below wr.heap.size wr w10 \/ True := .inr trivial
   have hx0 : Blk w0.heap.size #[.int .i64 t, .slice (some a) ln cn, .slice om lm cm, .slice ot lt ct, .slice or lr cr] 29 w10 := (hgr10.block _ (HK0.out.below hb9).lt (fun e => by have := hrow9.2 _ e.symm; omega)).trans (HK0.out.below hb9)
   have hx1 : Blk (w0.heap.size + 1) #[.int .i64 0, .slice none 0 0, .slice none 0 0, .slice none 0 0, .slice none 0 0] 38 w10 := (hgr10.block _ (HK1.out.below hb9).lt (fun e => by have := hrow9.2 _ e.symm; omega)).trans (HK1.out.below hb9)
   have hx2 : Blk (w0.heap.size + 2) #[.int .i64 t, .slice ox k cx, .slice om lm cm, .slice ot lt ct, .slice or lr cr] 38 w10 := (hgr10.block _ (HK2.out.below hb9).lt (fun e => by have := hrow9.2 _ e.symm; omega)).trans (HK2.out.below hb9)
   have hb10 : Below w0.heap.size w0 w10 := (hb.trans (hb9.mono (by omega))).grown hgr10 (by omega) (fun g hg => by have := hrow9.2 g hg; omega)
   have hs10 : w0.heap.size + 3 <= w10.heap.size := by have := hgr10.size; omega
   have hS10 : OfS w0.heap.size (.slice (some a) ln cn) (.slice ox k cx) e (.slice ov lv cv) w10 := ⟨hx0.cell 1, hx2.cell 1, H1e.out _ hb10⟩
   refine hK _ _ (fun _ => hS10) ?_
   clear hK K hbg hrow9 hnew hcell1 hb9 hgr10
   have hS := hS10
   clear hS10
   obtain ⟨o11, c11, rfl⟩ := hrow10.form
   refine tH 9 ?qv9 hS (fun w1 ⟨g0, g1, g2⟩ => ?qy9) ?_
   case qy9 => go_simp; try rfl
   simp only [Act.put, List.setIfInBounds_toArray, List.set_cons_succ, List.set_cons_zero]
   have d3 : w10.cell? ⟨w0.heap.size + 2, 1, none⟩ = some _ := hx2.cell 1
   have f3 := hx2.frozen 1
   refine oneH 10 (by rfl) (by kernel_rfl) (fun K hK => ?_)
   gi_wp2_with fail
   obtain ⟨W12, hW12⟩ : ∃ W12, w10.setCell ⟨w0.heap.size + 2, 1, none⟩ (.slice o11 (k + 1) c11) = W12 := ⟨_, rfl⟩
   have hy0 : Blk w0.heap.size #[.int .i64 t, .slice (some a) ln cn, .slice om lm cm, .slice ot lt ct, .slice or lr cr] 29 W12 := by subst hW12; exact hx0.set (by omega) _
   have hy1 : Blk (w0.heap.size + 1) #[.int .i64 0, .slice none 0 0, .slice none 0 0, .slice none 0 0, .slice none 0 0] 38 W12 := by subst hW12; exact hx1.set (by omega) _
   have hy2 : Blk (w0.heap.size + 2) #[.int .i64 t, .slice o11 (k + 1) c11, .slice om lm cm, .slice ot lt ct, .slice or lr cr] 38 W12 := by subst hW12; exact hx2.setAt 1 _
   have hrow12 : Row (fun g => w0.heap.size + 3 <= g) 22 1 (.slice o11 (k + 1) c11) (k + 1) (us.take k ++ [.slice ov lv cv]) W12 := by subst hW12; exact hrow10.setOther (fun h => by omega) _
   have hb12 : Below w0.heap.size w0 W12 := by subst hW12; exact hb10.setCell (p := ⟨w0.heap.size + 2, 1, none⟩) (by simp) _
   have hs12 : w0.heap.size + 3 <= W12.heap.size := by subst hW12; simpa [World.setCell] using hs10
   rw [hW12]
   refine hK _ _ (fun h => absurd h (by decide)) ?_
   clear hK K hW12 d3 f3 hS hx0 hx1 hx2 hrow10 hb10 hs10
   refine doneH (by kernel_rfl) ?_
   gi_wp2_with fail
   refine ⟨⟨k + 1, hlt, by go_num, hb12, hs12, hy0, hy1, o11, c11, hy2, ?_⟩, by simp [intOf]; omega⟩
   rw [List.take_succ_eq_append_getElem hku, HV.out]
   exact hrow12
  ·have hlz : ¬ ((k : Int) < (ln : Int)) := by omega
   obtain rfl : k = ln := by omega
   have p0 : wr.cell? ⟨w0.heap.size + 2, 0, none⟩ = some _ := hk2.cell 0
   have p1 : wr.cell? ⟨w0.heap.size + 2, 1, none⟩ = some _ := hk2.cell 1
   have p2 : wr.cell? ⟨w0.heap.size + 2, 2, none⟩ = some _ := hk2.cell 2
   have p3 : wr.cell? ⟨w0.heap.size + 2, 3, none⟩ = some _ := hk2.cell 3
   have p4 : wr.cell? ⟨w0.heap.size + 2, 4, none⟩ = some _ := hk2.cell 4
   have r0 : wr.cell? ⟨w0.heap.size + 1, 0, none⟩ = some _ := hk1.cell 0
   have r1 : wr.cell? ⟨w0.heap.size + 1, 1, none⟩ = some _ := hk1.cell 1
   have r2 : wr.cell? ⟨w0.heap.size + 1, 2, none⟩ = some _ := hk1.cell 2
   have r3 : wr.cell? ⟨w0.heap.size + 1, 3, none⟩ = some _ := hk1.cell 3
   have r4 : wr.cell? ⟨w0.heap.size + 1, 4, none⟩ = some _ := hk1.cell 4
   have f0 := hk1.frozen 0
   have f1 := hk1.frozen 1
   have f2 := hk1.frozen 2
   have f3 := hk1.frozen 3
   have f4 := hk1.frozen 4
   obtain ⟨We, hWe⟩ : ∃ We, ((((wr.setCell ⟨w0.heap.size + 1, 0, none⟩ (.int .i64 t)).setCell ⟨w0.heap.size + 1, 1, none⟩ (.slice ox k cx)).setCell ⟨w0.heap.size + 1, 2, none⟩ (.slice om lm cm)).setCell ⟨w0.heap.size + 1, 3, none⟩ (.slice ot lt ct)).setCell ⟨w0.heap.size + 1, 4, none⟩ (.slice or lr cr) = We := ⟨_, rfl⟩
   have hke : Blk (w0.heap.size + 1) #[.int .i64 t, .slice ox k cx, .slice om lm cm, .slice ot lt ct, .slice or lr cr] 38 We := by subst hWe; exact ((((hk1.setAt 0 _).setAt 1 _).setAt 2 _).setAt 3 _).setAt 4 _
   have hbe : Below w0.heap.size w0 We := by
    subst hWe
    exact ((((hb.setCell (p := ⟨w0.heap.size + 1, 0, none⟩) (by simp) _).setCell (p := ⟨w0.heap.size + 1, 1, none⟩) (by simp) _).setCell (p := ⟨w0.heap.size + 1, 2, none⟩) (by simp) _).setCell (p := ⟨w0.heap.size + 1, 3, none⟩) (by simp) _).setCell (p := ⟨w0.heap.size + 1, 4, none⟩) (by simp) _
   have hre : Row (fun g => w0.heap.size + 3 <= g) 22 1 (.slice ox k cx) k (us.take k) We := by
    subst hWe
    exact ((((hrow.setOther (fun h => by omega) _).setOther (fun h => by omega) _).setOther (fun h => by omega) _).setOther (fun h => by omega) _).setOther (fun h => by omega) _
   have e0 : We.cell? ⟨w0.heap.size + 1, 0, none⟩ = some _ := hke.cell 0
   have e1 : We.cell? ⟨w0.heap.size + 1, 1, none⟩ = some _ := hke.cell 1
   have e2 : We.cell? ⟨w0.heap.size + 1, 2, none⟩ = some _ := hke.cell 2
   have e3 : We.cell? ⟨w0.heap.size + 1, 3, none⟩ = some _ := hke.cell 3
   have e4 : We.cell? ⟨w0.heap.size + 1, 4, none⟩ = some _ := hke.cell 4
   have E := Lib.hid (And.intro e0 (And.intro e1 (And.intro e2 (And.intro e3 e4))))
   have HRE := Lib.hid hre
   have HBE := Lib.hid hbe
   clear hk0 hk1 hk2 hrow hre hbe hke
   gi_wp2_with fail
   obtain ⟨e0, e1, e2, e3, e4⟩ := E.out
   refine bodyPost_ret (v := .agg #[.int .i64 t, .slice ox k cx, .slice om lm cm, .slice ot lt ct, .slice or lr cr]) (by simp at e0 e1 e2 e3 e4; simp [results, Tryz.results20, go_sem, e0, e1, e2, e3, e4]) rfl ?_
   have hr := HRE.out
   have hl := HL.out
   have hbE := HBE.out
   rw [List.take_of_length_le (by omega)] at hr
   exact ⟨ox, cx, rfl, hr, hbE⟩
end Go.Proofs.YtgmbefolgppmdaaGreatDoor
end
section
namespace Go.Proofs.YtgmbefolgppmdaaGreatDoor
open Go.RowKit Go.Shelf Go.Sort
set_option maxRecDepth 100000
def Sv (B : Nat) (c0 c1 c2 c3 c4 c5 c6 : Value) (W : World) : Prop := W.cell? ⟨B, 0, none⟩ = some c0 /\ W.cell? ⟨B, 1, none⟩ = some c1 /\ W.cell? ⟨B, 2, none⟩ = some c2 /\ W.cell? ⟨B, 3, none⟩ = some c3 /\ W.cell? ⟨B, 4, none⟩ = some c4 /\ W.cell? ⟨B, 5, none⟩ = some c5 /\ W.cell? ⟨B, 6, none⟩ = some c6
theorem Sv.of {B : Nat} {c0 c1 c2 c3 c4 c5 c6 : Value} {t : TypeId} {W : World} (h : Blk B #[c0, c1, c2, c3, c4, c5, c6] t W) : Sv B c0 c1 c2 c3 c4 c5 c6 W := ⟨h.cell 0, h.cell 1, h.cell 2, h.cell 3, h.cell 4, h.cell 5, h.cell 6⟩
theorem DatRd.cells {ds : List Value} {r : Rc.PRec} {W : World} (h : DatRd ds r W) : ∃ p1 n1 q1 p2 n2 q2 p3 n3 q3 p4 n4 q4, ds = [.int .i64 r.type, .slice p1 n1 q1, .slice p2 n2 q2, .slice p3 n3 q3, .slice p4 n4 q4] := by
 obtain ⟨vn, vm, vt, vr, rfl, ⟨us, _, ⟨p1, q1, rfl, _⟩, _⟩, ⟨p2, q2, rfl, _⟩, ⟨p3, q3, rfl, _⟩, ⟨p4, q4, rfl, _⟩⟩ := h
 exact ⟨_, _, _, _, _, _, _, _, _, _, _, _, rfl⟩
set_option maxHeartbeats 2000000 in
theorem of5_any (vs : List Value) (r : Rc.PRec) (w0 : World) (h : RecRd vs r w0) (hn : r.names.length <= 1000) :
  Calls Tryz.prog 7 #[.agg vs.toArray] w0 fun e w' => ∃ vs', e = .returned (.agg vs'.toArray) /\ RecRd vs' r w' /\ Below w0.heap.size w0 w' := by
 obtain ⟨p0, n0, q0, p1, n1, q1, p2, n2, q2, p3, n3, q3, p4, n4, q4, rfl, hro, hrd⟩ := h.cells
 obtain ⟨W2, hW2⟩ : ∃ W2, (w0.alloc (.cells #[.slice p0 n0 q0, .int .u32 (r.ttl : Int), .int .i64 r.type, .slice p1 n1 q1, .slice p2 n2 q2, .slice p3 n3 q3, .slice p4 n4 q4] 31)).alloc (.cells #[.slice none 0 0, .int .u32 0, .int .i64 0, .slice none 0 0, .slice none 0 0, .slice none 0 0, .slice none 0 0] 40) = W2 := ⟨_, rfl⟩
 have hb2 : Below w0.heap.size w0 W2 := by subst hW2; exact ((Below.refl _ _).alloc (Nat.le_refl _) _).alloc (by simp) _
 have k0 : Blk w0.heap.size #[.slice p0 n0 q0, .int .u32 (r.ttl : Int), .int .i64 r.type, .slice p1 n1 q1, .slice p2 n2 q2, .slice p3 n3 q3, .slice p4 n4 q4] 31 W2 := by subst hW2; exact (Blk.new w0 _ _).alloc _
 have k1 : Blk (w0.heap.size + 1) #[.slice none 0 0, .int .u32 0, .int .i64 0, .slice none 0 0, .slice none 0 0, .slice none 0 0, .slice none 0 0] 40 W2 := by
  subst hW2
  have := Blk.new (w0.alloc (.cells #[.slice p0 n0 q0, .int .u32 (r.ttl : Int), .int .i64 r.type, .slice p1 n1 q1, .slice p2 n2 q2, .slice p3 n3 q3, .slice p4 n4 q4] 31)) #[.slice none 0 0, .int .u32 0, .int .i64 0, .slice none 0 0, .slice none 0 0, .slice none 0 0, .slice none 0 0] 40
  rwa [World.size_alloc] at this
 have HB := Lib.hid hb2
 have K1 := Lib.hid k1
 have HRO := Lib.hid hro
 have HRD := Lib.hid hrd
 obtain ⟨vn', vm', vt', vr', he, ⟨us, hul, hs1, hs2⟩, h2', h3', h4'⟩ := hrd
 cases he
 have HC := Lib.hid (fun w' (hw : Below w0.heap.size w0 w') => of4_any (.slice p1 n1 q1) (.slice p2 n2 q2) (.slice p3 n3 q3) (.slice p4 n4 q4) us r.type w' (hs1.below hw) (fun u hu => by
  obtain ⟨i, hi, rfl⟩ := List.mem_iff_getElem.1 hu
  obtain ⟨o, c, h, _⟩ := (hs2 i hi (by omega)).form
  exact ⟨_, _, _, h⟩) ⟨_, _, _, rfl⟩ ⟨_, _, _, rfl⟩ ⟨_, _, _, rfl⟩ (by omega))
 have HU := Lib.hid hs2
 have HDR := Lib.hid (And.intro h2' (And.intro h3' h4'))
 have hSr := Sv.of k0
 have K0 := Lib.hid k0
 obtain ⟨m1, hm1⟩ : ∃ m1, us.length = m1 := ⟨_, rfl⟩
 rw [hm1] at HC
 have HUL := Lib.hid (And.intro hul hm1)
 clear hro h k0 k1 hb2 hs1 hs2 h2' h3' h4' hul hm1 HRD
 refine (callsIn_wide (n := 0)).1 ?_
 refine callsIn_of_wp Tryz.func7 rfl trivial ?_ rfl
 simp only [Tryz.ntmps7, List.size_toArray, List.length_cons, List.length_nil, Nat.reduceAdd, Nat.reduceSub, Array.replicate_succ, Array.replicate_zero, List.push_toArray, List.append_toArray, List.nil_append, List.cons_append]
 gi_wp2_with fail
 refine drawnH [0, 1, 2, 3, 4, 5, 6, 7] (Sv w0.heap.size (.slice p0 n0 q0) (.int .u32 (r.ttl : Int)) (.int .i64 r.type) (.slice p1 n1 q1) (.slice p2 n2 q2) (.slice p3 n3 q3) (.slice p4 n4 q4)) 9 rfl (by kernel_rfl) ?_
 intro w3 hw3
 have hS : Sv w0.heap.size (.slice p0 n0 q0) (.int .u32 (r.ttl : Int)) (.int .i64 r.type) (.slice p1 n1 q1) (.slice p2 n2 q2) (.slice p3 n3 q3) (.slice p4 n4 q4) w3 := by subst hw3; exact hSr
 have hb3 : Below W2.heap.size W2 w3 := by subst hw3; exact (Below.refl _ _).drew
 clear hw3 hSr hW2
 refine tH 0 ?qv0 hS (fun w1 ⟨g0, g1, g2, g3, g4, g5, g6⟩ => ?qy0) ?_
 case qy0 => go_simp; try rfl
 refine tH 2 ?qv2 hS (fun w1 ⟨g0, g1, g2, g3, g4, g5, g6⟩ => ?qy2) ?_
 case qy2 => go_simp; try rfl
 refine tH 4 ?qv4 hS (fun w1 ⟨g0, g1, g2, g3, g4, g5, g6⟩ => ?qy4) ?_
 case qy4 => go_simp; try rfl
 refine tH 1 ?qv1 hS (fun w1 ⟨g0, g1, g2, g3, g4, g5, g6⟩ => ?qy1) ?_
 case qy1 => go_simp; try rfl
 refine tH 3 ?qv3 hS (fun w1 ⟨g0, g1, g2, g3, g4, g5, g6⟩ => ?qy3) ?_
 case qy3 => go_simp; try rfl
 refine tH 5 ?qv5 hS (fun w1 ⟨g0, g1, g2, g3, g4, g5, g6⟩ => ?qy5) ?_
 case qy5 => go_simp; try rfl
 simp only [Act.put, List.setIfInBounds_toArray, List.set_cons_succ, List.set_cons_zero]
 have hbs3 := hb3.size
 have HC3 := Lib.hid (HC.out _ (below5 HB.out hb3))
 refine oneH 6 (by rfl) (by kernel_rfl) (fun K hK => ?_)
 gi_wp2_with (gi_at_call 20; refine (callsIn_wide.2 HC3.out).mono ?_; rintro e w4 ⟨r1, t1, rfl, hrow4, b4⟩)
 have hb4 := below5 hb3 b4
 have hS4 : Sv w0.heap.size (.slice p0 n0 q0) (.int .u32 (r.ttl : Int)) (.int .i64 r.type) (.slice p1 n1 q1) (.slice p2 n2 q2) (.slice p3 n3 q3) (.slice p4 n4 q4) w4 := Sv.of (K0.out.below hb4)
 refine hK _ _ (fun _ => hS4) ?_
 clear hK K hS hb3 b4
 have hS := hS4
 clear hS4
 refine tH 7 ?qv7 hS (fun w1 ⟨g0, g1, g2, g3, g4, g5, g6⟩ => ?qy7) ?_
 case qy7 => go_simp; try rfl
 simp only [Act.put, List.setIfInBounds_toArray, List.set_cons_succ, List.set_cons_zero]
 have k1 := K1.out.below hb4
 have a0 : w4.cell? ⟨w0.heap.size + 1, 0, none⟩ = some _ := k1.cell 0
 have a1 : w4.cell? ⟨w0.heap.size + 1, 1, none⟩ = some _ := k1.cell 1
 have a2 : w4.cell? ⟨w0.heap.size + 1, 2, none⟩ = some _ := k1.cell 2
 have a3 : w4.cell? ⟨w0.heap.size + 1, 3, none⟩ = some _ := k1.cell 3
 have a4 : w4.cell? ⟨w0.heap.size + 1, 4, none⟩ = some _ := k1.cell 4
 have a5 : w4.cell? ⟨w0.heap.size + 1, 5, none⟩ = some _ := k1.cell 5
 have a6 : w4.cell? ⟨w0.heap.size + 1, 6, none⟩ = some _ := k1.cell 6
 have f0 := k1.frozen 0
 have f1 := k1.frozen 1
 have f2 := k1.frozen 2
 have f3 := k1.frozen 3
 have f4 := k1.frozen 4
 have f5 := k1.frozen 5
 have f6 := k1.frozen 6
 obtain ⟨We, hWe⟩ : ∃ We, ((((((w4.setCell ⟨w0.heap.size + 1, 0, none⟩ (.slice p0 n0 q0)).setCell ⟨w0.heap.size + 1, 1, none⟩ (.int .u32 (r.ttl : Int))).setCell ⟨w0.heap.size + 1, 2, none⟩ (.int .i64 r.type)).setCell ⟨w0.heap.size + 1, 3, none⟩ (.slice r1 m1 t1)).setCell ⟨w0.heap.size + 1, 4, none⟩ (.slice p2 n2 q2)).setCell ⟨w0.heap.size + 1, 5, none⟩ (.slice p3 n3 q3)).setCell ⟨w0.heap.size + 1, 6, none⟩ (.slice p4 n4 q4) = We := ⟨_, rfl⟩
 have ke : Blk (w0.heap.size + 1) #[.slice p0 n0 q0, .int .u32 (r.ttl : Int), .int .i64 r.type, .slice r1 m1 t1, .slice p2 n2 q2, .slice p3 n3 q3, .slice p4 n4 q4] 40 We := by
  subst hWe; exact ((((((k1.setAt 0 _).setAt 1 _).setAt 2 _).setAt 3 _).setAt 4 _).setAt 5 _).setAt 6 _
 have hbe : Below w0.heap.size w0 We := by
  subst hWe
  exact (((((((below5 HB.out hb4).setCell (p := ⟨w0.heap.size + 1, 0, none⟩) (by simp) _).setCell (p := ⟨w0.heap.size + 1, 1, none⟩) (by simp) _).setCell (p := ⟨w0.heap.size + 1, 2, none⟩) (by simp) _).setCell (p := ⟨w0.heap.size + 1, 3, none⟩) (by simp) _).setCell (p := ⟨w0.heap.size + 1, 4, none⟩) (by simp) _).setCell (p := ⟨w0.heap.size + 1, 5, none⟩) (by simp) _).setCell (p := ⟨w0.heap.size + 1, 6, none⟩) (by simp) _
 have hrowe : Row (fun g => w3.heap.size + 3 <= g) 22 1 (.slice r1 m1 t1) m1 us We := by
  have hlt : w0.heap.size + 1 < w3.heap.size := by
   have h1 := K1.out.lt; have h2 := hbs3; omega
  subst hWe
  exact ((((((hrow4.setOther (fun h => by omega) _).setOther (fun h => by omega) _).setOther (fun h => by omega) _).setOther (fun h => by omega) _).setOther (fun h => by omega) _).setOther (fun h => by omega) _).setOther (fun h => by omega) _
 have KE := Lib.hid ke
 have HBE := Lib.hid hbe
 have HRE := Lib.hid hrowe
 clear ke hbe hrowe hrow4 k1
 refine oneH 8 (by rfl) (by kernel_rfl) (fun K hK => ?_)
 gi_wp2_with fail
 refine hK _ _ (fun h => absurd h (by decide)) ?_
 clear hK K hS
 refine doneH (by kernel_rfl) ?_
 have e0 : We.cell? ⟨w0.heap.size + 1, 0, none⟩ = some _ := KE.out.cell 0
 have e1 : We.cell? ⟨w0.heap.size + 1, 1, none⟩ = some _ := KE.out.cell 1
 have e2 : We.cell? ⟨w0.heap.size + 1, 2, none⟩ = some _ := KE.out.cell 2
 have e3 : We.cell? ⟨w0.heap.size + 1, 3, none⟩ = some _ := KE.out.cell 3
 have e4 : We.cell? ⟨w0.heap.size + 1, 4, none⟩ = some _ := KE.out.cell 4
 have e5 : We.cell? ⟨w0.heap.size + 1, 5, none⟩ = some _ := KE.out.cell 5
 have e6 : We.cell? ⟨w0.heap.size + 1, 6, none⟩ = some _ := KE.out.cell 6
 gi_wp2_with fail
 refine bodyPost_ret (v := .agg #[.slice p0 n0 q0, .int .u32 (r.ttl : Int), .int .i64 r.type, .slice r1 m1 t1, .slice p2 n2 q2, .slice p3 n3 q3, .slice p4 n4 q4]) (by simp at e0 e1 e2 e3 e4 e5 e6; simp [results, Tryz.results7, go_sem, e0, e1, e2, e3, e4, e5, e6]) rfl ?_
 have hbE := HBE.out
 obtain ⟨hul, hm1⟩ := HUL.out
 have hsl : Sl (.slice r1 m1 t1) us We := by
  have h := HRE.out
  rw [<- hm1] at h ⊢
  exact h.sl
 obtain ⟨h2, h3, h4⟩ := HDR.out
 exact ⟨[.slice p0 n0 q0, .int .u32 (r.ttl : Int), .int .i64 r.type, .slice r1 m1 t1, .slice p2 n2 q2, .slice p3 n3 q3, .slice p4 n4 q4], rfl, ⟨_, _, rfl, HRO.out.below hbE, _, _, _, _, rfl, ⟨us, hul, hsl, fun i h h' => (HU.out i h h').below hbE⟩, h2.below hbE, h3.below hbE, Sl.below h4 hbE⟩, hbE⟩
end Go.Proofs.YtgmbefolgppmdaaGreatDoor
end
section
namespace Go.Proofs.YtgmbefolgppmdaaGreatDoor
open Go.RowKit Go.Shelf Go.Sort
set_option maxRecDepth 100000
def Nums3 (t : Int) (w : World) (e : Ending) (w' : World) : Prop := (∃ a b c : Int, e = .returned (.tuple #[.int .i64 a, .int .i64 b, .int .i64 c]) /\ (t = 15 -> b = 1)) /\ w = w'
def Ints (w : World) (e : Ending) (w' : World) : Prop := ∃ z, e = .returned (.int .i64 z) /\ Below w.heap.size w w'
end Go.Proofs.YtgmbefolgppmdaaGreatDoor
end
section
namespace Go.Proofs.YtgmbefolgppmdaaGreatDoor
open Go.RowKit Go.Shelf Go.Sort
set_option maxRecDepth 100000
end Go.Proofs.YtgmbefolgppmdaaGreatDoor
end
