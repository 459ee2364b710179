/- Sets of records: one set. -/
import Derived.Test.YtneghhbclefmoaaGreatKRsA
namespace Go.Proofs.YtneghhbclefmoaaGreat
open Go.RowKit Go.Shelf Go.Sort
set_option maxRecDepth 100000
attribute [local go_sem] Oper.semAt_some
theorem setsCall_any (o : Option Addr) (n cap : Nat) (w : World) :
  Calls Tryz.prog 111 #[.slice o n cap] w fun e w' => e = .returned (.func (.func 145) #[] #[.pointer (some ⟨w.heap.size, 0, none⟩)]) /\ w.alloc (.cells #[.slice o n cap] 24) = w' := by
 go_enter Tryz.func111, Tryz.ntmps111
 go_wp2
 go_ret
 exact ⟨rfl, rfl⟩
namespace Rs
open Rc
def Q (owner : List (List UInt8)) (t : Int) (r : PRec) : Bool := (t == r.type) && Nm.same owner r.owner
def mine (l : List PRec) (owner : List (List UInt8)) (t : Int) : List PRec := canon (l.filter (Q owner t))
end Rs
section
variable {w : World}
def ofV (c : List (El w)) (v : Value) (W : World) : Prop := match c with
 | [] => v = .agg #[.slice none 0 0, .int .i64 0, .int .u32 0, .slice none 0 0]
 | x :: xs => ∃ vo od cd, v = .agg #[vo, .int .i64 x.1.2.type, .int .u32 ((Rs.ttl x.1.2 (plE ((x :: xs).take (Rs.run x.1.2 (plE (x :: xs))))) : Nat) : Int), .slice od (Rs.run x.1.2 (plE (x :: xs))) cd] /\ Rd vo x.1.2.owner w /\ DatsRd (.slice od (Rs.run x.1.2 (plE (x :: xs))) cd) ((x :: xs).take (Rs.run x.1.2 (plE (x :: xs)))) W
def OfR (l : List (El w)) (owner : List (List UInt8)) (t : Int) (w0 : World) (e : Ending) (w' : World) : Prop :=
 ∃ (c : List (El w)) (v : Value), plE c = Rs.mine (plE l) owner t /\ c.length <= l.length /\ e = .returned (.tuple #[v, .bool (!c.isEmpty)]) /\ ofV c v w' /\ Below w0.heap.size w0 w'
theorem DatsRd.st {v o n cap} {l : List (El w)} {A B : World} {bl : Nat} (h : DatsRd v l A) (hv : v = .slice o n cap) (hst : A.grownBy B (some bl)) (hb : ∀ a, o = some a -> a.block ≠ bl) : DatsRd v l B := by
 obtain ⟨o', cap', e0, h1, h2, h3, h4⟩ := h
 refine ⟨o', cap', e0, h1, h2, h3, fun j hj => ?_⟩
 obtain ⟨a, ha, hc⟩ := h4 j hj
 have ho : o = some a := by rw [e0] at hv; cases hv; exact ha
 refine ⟨a, ha, ?_⟩
 have hlt := cell_lt hc
 rw [World.cell?_of_block (hst.block _ hlt (fun e => hb a ho (by have := Option.some.inj e; rwa [add_block] at this)))]; exact hc
structure OfM (B : Nat) (w0 ws : World) (W : World) : Prop where
 r0 : Blk B #[.slice none 0 0, .int .i64 0, .int .u32 0, .slice none 0 0] 116 W
 r1 : Box (B + 1) 4 (.bool false) W
 below : Below B w0 W
 size : ws.heap.size <= W.heap.size
theorem OfM.put {B w0 ws L} (hL : ws.heap.size <= L) (hB : B <= ws.heap.size) {A : World} {r : Loop} (h : OfM B w0 ws A) (hr : A.heap[L]? = some (.loop r)) (o : Obj) : OfM B w0 ws (A.putObj L o) :=
 ⟨h.r0.put hr o, h.r1.put hr o, below_put h.below (by omega) hr (by have := h.size; omega) o, by simpa using h.size⟩
theorem OfM.on {B w0 ws} {A W : World} (h : OfM B w0 ws A) (hb : Below A.heap.size A W) (hBA : B <= A.heap.size) : OfM B w0 ws W :=
 ⟨h.r0.below hb, h.r1.below hb, h.below.trans (hb.mono hBA), by have := hb.size; have := h.size; omega⟩
theorem OfM.st {B w0 ws bl} {A W : World} (h : OfM B w0 ws A) (hst : setSt bl A W) (hbl : B + 2 <= bl) : OfM B w0 ws W :=
 ⟨(hst.1.block B h.r0.lt (fun e => by cases e; omega)).trans h.r0, (hst.1.block (B + 1) h.r1.lt (fun e => by cases e; omega)).trans h.r1, h.below.grown hst.1 (by have := h.r0.lt; omega) (fun g hg => by cases hg; omega), by have := hst.1.size; have := h.size; omega⟩
def OfX (B bl : Nat) (w0 ws : World) (c : List (El w)) (k : Code) (W : World) : Prop :=
 k = .ret /\ ∃ x xs vo od cd, c = x :: xs /\ Blk B #[vo, .int .i64 x.1.2.type, .int .u32 ((Rs.ttl x.1.2 (plE ((x :: xs).take (Rs.run x.1.2 (plE (x :: xs))))) : Nat) : Int), .slice od (Rs.run x.1.2 (plE (x :: xs))) cd] 116 W /\ Box (B + 1) 4 (.bool true) W /\
  Rd vo x.1.2.owner w /\ DatsRd (.slice od (Rs.run x.1.2 (plE (x :: xs))) cd) ((x :: xs).take (Rs.run x.1.2 (plE (x :: xs)))) W /\ (∀ a, od = some a -> bl < a.block) /\ Below B w0 W /\ ws.heap.size <= W.heap.size
theorem OfX.put {B bl w0 ws L} {c : List (El w)} (hL : ws.heap.size <= L) (hB : B <= ws.heap.size) {k : Code} {A : World} {r : Loop} (h : OfX B bl w0 ws c k A) (hr : A.heap[L]? = some (.loop r)) (o : Obj) : OfX B bl w0 ws c k (A.putObj L o) := by
 obtain ⟨h0, x, xs, vo, od, cd, h1, h2, h3, h4, h5, h6, h7, h8⟩ := h
 exact ⟨h0, x, xs, vo, od, cd, h1, h2.put hr o, h3.put hr o, h4, h5.cells_kept (CellsKept.put hr o), h6, below_put h7 (by omega) hr (by omega) o, by simpa using h8⟩
theorem OfX.st {B bl w0 ws} {c : List (El w)} {k : Code} {A W : World} (h : OfX B bl w0 ws c k A) (hst : setSt bl A W) (hbl : B + 2 <= bl) : OfX B bl w0 ws c k W := by
 obtain ⟨h0, x, xs, vo, od, cd, h1, h2, h3, h4, h5, h6, h7, h8⟩ := h
 exact ⟨h0, x, xs, vo, od, cd, h1, (hst.1.block B h2.lt (fun e => by cases e; omega)).trans h2, (hst.1.block (B + 1) h3.lt (fun e => by cases e; omega)).trans h3, h4, h5.st rfl hst.1 (fun a ha e => by have := h6 a ha; omega), h6, h7.grown hst.1 (by have := h2.lt; omega) (fun g hg => by cases hg; omega), by have := hst.1.size; omega⟩
set_option maxHeartbeats 4000000 in
theorem rsetOf_any {w0 : World} (vr vo : Value) (l : List (El w)) (o : List (List UInt8)) (t : Int) (hb0 : Below w.heap.size w w0) (hv : RecsRd vr (l.map (·.1)) w0) (na : l.length <= 1000) (ho : Rd vo o w0) (no : NB o) :
  Calls Tryz.prog 66 #[vr, vo, .int .i64 t] w0 (OfR l o t w0) := by
 obtain ⟨oo, co, rfl, _, _⟩ := ho.form
 obtain ⟨ov, cv, rfl⟩ : ∃ o cap, vr = .slice o l.length cap := by obtain ⟨_, o, cap, h, _⟩ := hv; exact ⟨o, cap, by rw [h, List.length_map]⟩
 obtain ⟨W2, hW2⟩ : ∃ W2, (w0.alloc (.cells #[.slice none 0 0, .int .i64 0, .int .u32 0, .slice none 0 0] 116)).alloc (.cells #[.bool false] 4) = W2 := ⟨_, rfl⟩
 have hM : Hid (OfM w0.heap.size w0 w0 W2) := by
  subst hW2
  refine ⟨(Blk.new w0 _ _).alloc _, ?_, ((Below.refl _ _).alloc (Nat.le_refl _) _).alloc (by simp) _, by simp; omega⟩
  have := Box.new (w0.alloc (.cells #[.slice none 0 0, .int .i64 0, .int .u32 0, .slice none 0 0] 116)) 4 (.bool false)
  rwa [World.size_alloc] at this
 have hs2 : W2.heap.size = w0.heap.size + 2 := by subst hW2; simp
 have HV := Lib.hid hv.el
 have HO := Lib.hid ho
 have NO := Lib.hid no
 have HB0 := Lib.hid hb0
 have lo : (l.length : Int) <= 1000 := by omega
 clear hv ho no hb0
 refine (callsIn_wide (n := 0)).1 ?_
 refine callsIn_of_wp_marks Tryz.func66 rfl trivial ?_ rfl
 simp only [Tryz.ntmps66, List.size_toArray, List.length_cons, List.length_nil, Nat.reduceAdd, Nat.reduceSub, Array.replicate_succ, Array.replicate_zero, List.push_toArray, List.append_toArray, List.nil_append, List.cons_append]
 gi_wp2
 gi_loopw [8, 14] (fun v8 v14 W => ∃ k : Nat, k <= l.length /\ v14 = .int .i64 k /\ OfM w0.heap.size w0 w0 W /\ w0.heap.size + 2 <= W.heap.size /\ Row (fun g => w0.heap.size + 2 <= g) 90 7 v8 ((l.take k).filter fun r => Rs.Q o t r.1.2).length (((l.take k).filter fun r => Rs.Q o t r.1.2).flatMap encE) W) (fun _ v14 _ => l.length - (intOf v14).toNat)
 case atStart => exact ⟨0, Nat.zero_le _, rfl, hM.out, by omega, Row.nil _ _ _ _⟩
 case round =>
  obtain ⟨k, hk, rfl, hm, hsz, hrow⟩ := hrel
  by_cases hlt : k < l.length
  ·have hlz : (k : Int) < (l.length : Int) := by omega
   obtain ⟨x, hx⟩ : ∃ x, l[k] = x := ⟨_, rfl⟩
   obtain ⟨p0, n0, q0, p1, n1, q1, p2, n2, q2, p3, n3, q3, p4, n4, q4, ex⟩ := x.cells
   obtain ⟨ga, rfl, e0, e1, e2, e3, e4, e5, e6⟩ := HV.out _ hm.below k hlt _ _ _ _ _ _ _ (by rw [hx]; exact ex)
   have HX := Lib.hid ex
   have HXL := Lib.hid hx
   have HM := Lib.hid hm
   have HR := Lib.hid hrow
   obtain ⟨e, he⟩ : ∃ e, ga.add (k * 7) = e := ⟨_, rfl⟩
   rw [he] at e0 e1 e2 e3 e4 e5 e6
   obtain ⟨Wa, hWa⟩ : ∃ Wa, wr.alloc (.cells #[.slice none 0 0, .int .u32 0, .int .i64 0, .slice none 0 0, .slice none 0 0, .slice none 0 0, .slice none 0 0] 90) = Wa := ⟨_, rfl⟩
   have hblk : Blk wr.heap.size #[.slice none 0 0, .int .u32 0, .int .i64 0, .slice none 0 0, .slice none 0 0, .slice none 0 0, .slice none 0 0] 90 Wa := by subst hWa; exact Blk.new wr _ _
   have hba : Below wr.heap.size wr Wa := by subst hWa; exact (Below.refl _ _).alloc (Nat.le_refl _) _
   obtain ⟨Wb, hWb⟩ : ∃ Wb, ((((((Wa.setCell ⟨wr.heap.size, 0, none⟩ (.slice p0 n0 q0)).setCell ⟨wr.heap.size, 1, none⟩ (.int .u32 (x.1.2.ttl : Int))).setCell ⟨wr.heap.size, 2, none⟩ (.int .i64 x.1.2.type)).setCell ⟨wr.heap.size, 3, none⟩ (.slice p1 n1 q1)).setCell ⟨wr.heap.size, 4, none⟩ (.slice p2 n2 q2)).setCell ⟨wr.heap.size, 5, none⟩ (.slice p3 n3 q3)).setCell ⟨wr.heap.size, 6, none⟩ (.slice p4 n4 q4) = Wb := ⟨_, rfl⟩
   have hblb : Blk wr.heap.size #[.slice p0 n0 q0, .int .u32 (x.1.2.ttl : Int), .int .i64 x.1.2.type, .slice p1 n1 q1, .slice p2 n2 q2, .slice p3 n3 q3, .slice p4 n4 q4] 90 Wb := by
    subst hWb; exact ((((((hblk.setAt 0 _).setAt 1 _).setAt 2 _).setAt 3 _).setAt 4 _).setAt 5 _).setAt 6 _
   have hbb : Below wr.heap.size wr Wb := by
    subst hWb
    exact ((((((hba.setCell (p := ⟨wr.heap.size, 0, none⟩) (Nat.le_refl _) _).setCell (p := ⟨wr.heap.size, 1, none⟩) (Nat.le_refl _) _).setCell (p := ⟨wr.heap.size, 2, none⟩) (Nat.le_refl _) _).setCell (p := ⟨wr.heap.size, 3, none⟩) (Nat.le_refl _) _).setCell (p := ⟨wr.heap.size, 4, none⟩) (Nat.le_refl _) _).setCell (p := ⟨wr.heap.size, 5, none⟩) (Nat.le_refl _) _).setCell (p := ⟨wr.heap.size, 6, none⟩) (Nat.le_refl _) _
   have a0 : Wa.cell? ⟨wr.heap.size, 0, none⟩ = some _ := hblk.cell 0
   have a1 : Wa.cell? ⟨wr.heap.size, 1, none⟩ = some _ := hblk.cell 1
   have a2 : Wa.cell? ⟨wr.heap.size, 2, none⟩ = some _ := hblk.cell 2
   have a3 : Wa.cell? ⟨wr.heap.size, 3, none⟩ = some _ := hblk.cell 3
   have a4 : Wa.cell? ⟨wr.heap.size, 4, none⟩ = some _ := hblk.cell 4
   have a5 : Wa.cell? ⟨wr.heap.size, 5, none⟩ = some _ := hblk.cell 5
   have a6 : Wa.cell? ⟨wr.heap.size, 6, none⟩ = some _ := hblk.cell 6
   have z0 := hblk.frozen 0
   have z1 := hblk.frozen 1
   have z2 := hblk.frozen 2
   have z3 := hblk.frozen 3
   have z4 := hblk.frozen 4
   have z5 := hblk.frozen 5
   have z6 := hblk.frozen 6
   have b0 : Wb.cell? ⟨wr.heap.size, 0, none⟩ = some _ := hblb.cell 0
   have b1 : Wb.cell? ⟨wr.heap.size, 1, none⟩ = some _ := hblb.cell 1
   have b2 : Wb.cell? ⟨wr.heap.size, 2, none⟩ = some _ := hblb.cell 2
   have b3 : Wb.cell? ⟨wr.heap.size, 3, none⟩ = some _ := hblb.cell 3
   have b4 : Wb.cell? ⟨wr.heap.size, 4, none⟩ = some _ := hblb.cell 4
   have b5 : Wb.cell? ⟨wr.heap.size, 5, none⟩ = some _ := hblb.cell 5
   have b6 : Wb.cell? ⟨wr.heap.size, 6, none⟩ = some _ := hblb.cell 6
   have hbw : Below w.heap.size w Wb := below5 (below5 HB0.out hm.below) hbb
   have HIS := Lib.hid (setIs_any x (.slice oo o.length co) (.slice none 0 0) t 0 o Wb hbw (HO.out.below (hm.below.trans (hbb.mono (by omega)))) NO.out)
   obtain ⟨bz, hbz⟩ : ∃ bz, Rs.Q o t x.1.2 = bz := ⟨_, rfl⟩
   have HBZ := Lib.hid hbz
   rw [HX.out, show ((t == x.1.2.type) && Nm.same o x.1.2.owner) = bz from hbz] at HIS
   have HBB := Lib.hid hbb
   have HBL := Lib.hid hblb
   have htk : l.take (k + 1) = l.take k ++ [x] := by rw [List.take_succ_eq_append_getElem hlt, hx]
   have HTK := Lib.hid htk
   clear hm hrow ex hx hba hbb hblk hblb hbw hbz htk
   gi_wp2_with fail
   refine (callsIn_wide.2 HIS.out).mono ?_
   rintro e8 w8 ⟨rfl, bb8⟩
   have hb8 := below5 HBB.out bb8
   have q0' : w8.cell? ⟨wr.heap.size, 0, none⟩ = some _ := (HBL.out.below bb8).cell 0
   have q1' : w8.cell? ⟨wr.heap.size, 1, none⟩ = some _ := (HBL.out.below bb8).cell 1
   have q2' : w8.cell? ⟨wr.heap.size, 2, none⟩ = some _ := (HBL.out.below bb8).cell 2
   have q3' : w8.cell? ⟨wr.heap.size, 3, none⟩ = some _ := (HBL.out.below bb8).cell 3
   have q4' : w8.cell? ⟨wr.heap.size, 4, none⟩ = some _ := (HBL.out.below bb8).cell 4
   have q5' : w8.cell? ⟨wr.heap.size, 5, none⟩ = some _ := (HBL.out.below bb8).cell 5
   have q6' : w8.cell? ⟨wr.heap.size, 6, none⟩ = some _ := (HBL.out.below bb8).cell 6
   have HB8 := Lib.hid hb8
   clear e0 e1 e2 e3 e4 e5 e6 a0 a1 a2 a3 a4 a5 a6 z0 z1 z2 z3 z4 z5 z6 b0 b1 b2 b3 b4 b5 b6 hWa hWb bb8 hb8 he HIS
   cases bz with
   | true =>
    obtain ⟨W9, hW9⟩ : ∃ W9, w8.alloc (.cells #[.slice p0 n0 q0, .int .u32 (x.1.2.ttl : Int), .int .i64 x.1.2.type, .slice p1 n1 q1, .slice p2 n2 q2, .slice p3 n3 q3, .slice p4 n4 q4] 90) = W9 := ⟨_, rfl⟩
    have hb9 : Below wr.heap.size wr W9 := by subst hW9; exact HB8.out.alloc HB8.out.size _
    have hone : RecsRd (.slice (some ⟨w8.heap.size, 0, none⟩) 1 1) [x.1] W9 := by subst hW9; exact recs_one x (below5 (below5 HB0.out HM.out.below) HB8.out) HX.out
    have HN1 := Lib.hid (show ((l.take k).filter fun r => Rs.Q o t r.1.2).length + [x.1].length <= 100000 by
     have := List.length_filter_le (fun r : El w => Rs.Q o t r.1.2) (l.take k)
     rw [List.length_take] at this
     simp only [List.length_cons, List.length_nil]; omega)
    have hrow9 := HR.out.below hb9
    have hz9 : w0.heap.size + 2 <= W9.heap.size := by have := hb9.size; omega
    gi_wp2_with (gi_at_builtin; refine append_recs (fun g => w0.heap.size + 2 <= g) rfl _ _ _ Tryz.underlying24 rfl _ _ (((l.take k).filter fun r => Rs.Q o t r.1.2).flatMap encE) (by rfl) hrow9 _ [x.1] (by rfl) hone HN1.out hz9 ?_; intro v10 w10 hrow10 hgr10)
    have hm10 : OfM w0.heap.size w0 w0 w10 := by
     have h9 := HM.out.on hb9 (by omega)
     exact ⟨(hgr10.block _ h9.r0.lt (fun e => by have := hrow9.2 _ e.symm; omega)).trans h9.r0, (hgr10.block _ h9.r1.lt (fun e => by have := hrow9.2 _ e.symm; omega)).trans h9.r1, h9.below.grown hgr10 h9.size (fun g hg => by have := hrow9.2 g hg; omega), Nat.le_trans h9.size hgr10.size⟩
    refine ⟨⟨k + 1, hlt, by go_num, hm10, Nat.le_trans hz9 hgr10.size, ?_⟩, by simp [intOf]; omega⟩
    rw [HTK.out, List.filter_append, List.filter_cons_of_pos (by exact HBZ.out), List.filter_nil, List.length_append, List.flatMap_append]
    have := hrow10
    simpa [encP, encE] using this
   | false =>
    gi_wp2_with fail
    refine ⟨⟨k + 1, hlt, by go_num, HM.out.on HB8.out (by omega), by have := HB8.out.size; omega, ?_⟩, by simp [intOf]; omega⟩
    rw [HTK.out, List.filter_append, List.filter_cons_of_neg (by rw [HBZ.out]; exact Bool.false_ne_true), List.filter_nil, List.append_nil]
    exact HR.out.below HB8.out
  ·have hlz : ¬ ((k : Int) < (l.length : Int)) := by omega
   obtain rfl : k = l.length := by omega
   rw [List.take_length] at hrow
   obtain ⟨F, hF⟩ : ∃ F, (l.filter fun r => Rs.Q o t r.1.2) = F := ⟨_, rfl⟩
   have hfl : F.length <= l.length := by rw [<- hF]; exact List.length_filter_le _ _
   rw [hF] at hrow
   have hbw : Below w.heap.size w wr := below5 HB0.out hm.below
   have hrd : RecsRd u8 (F.map (·.1)) wr := Row.recs hrow hbw
   have HCN := Lib.hid (canon_any u8 (F.map (El.up hbw)) (by rw [up_fst]; exact hrd) (by rw [List.length_map]; omega))
   have HPL := Lib.hid (up_pl hbw F)
   have HUP : Hid (∀ y ∈ F.map (El.up hbw), RecRd y.1.1 y.1.2 w) := fun y hy => by
    obtain ⟨z, _, rfl⟩ := List.mem_map.1 hy
    exact z.2.1
   have HM := Lib.hid hm
   have HBW := Lib.hid hbw
   have HF := Lib.hid hF
   clear hm hrow hrd hF
   gi_wp2_with (gi_at_call 48; refine (callsIn_wide.2 HCN.out).mono ?_; rintro e w1 ⟨v1, l1, rfl, r1, p1, n1, b1, fr1, el1⟩)
   obtain ⟨c', d1, d2, d3⟩ := down_list (w := w) l1 (fun x hx => el1 x hx w HUP.out)
   obtain ⟨o', cap', rfl⟩ : ∃ o c, v1 = .slice o l1.length c := by obtain ⟨_, o, c, h, _⟩ := r1; exact ⟨o, c, by rw [h, List.length_map]⟩
   rw [<- d1, <- d3] at r1
   rw [<- d3] at fr1
   have hcp : plE c' = Rs.mine (plE l) o t := by
    rw [d2, p1, HPL.out, <- HF.out]
    unfold Rs.mine
    congr 1
    simp only [plE, List.filter_map]; rfl
   have hcl : c'.length <= l.length := by rw [d3]; have := n1; rw [List.length_map] at this; omega
   have HCP := Lib.hid hcp
   have hsz1 : w0.heap.size + 2 <= w1.heap.size := by have := b1.size; omega
   have hm1 := HM.out.on b1 (by omega)
   have hbw1 : Below w.heap.size w w1 := below5 HBW.out b1
   have hoo : ∀ a, o' = some a -> 0 < c'.length -> a.block < w1.heap.size := fun a ha hp => by
    obtain ⟨_, o2, c2, e1, _, _, _, e5⟩ := r1
    rw [List.length_map] at e1
    cases e1
    obtain ⟨a2, ha2, hc2⟩ := e5 0 (by rw [encP_map, flat_len encE 7 encE_len]; omega)
    rw [ha] at ha2; cases ha2
    have := cell_lt hc2
    rwa [add_block] at this
   have HR1 := Lib.hid r1
   rw [<- d3]
   clear r1 p1 n1 fr1 el1 d1 d2 d3 hcp b1
   gi_wp2_with (gi_at_call 111; refine (callsIn_wide.2 (setsCall_any _ _ _ _)).mono ?_; rintro e ws ⟨rfl, hws⟩)
   have hbs : Below w1.heap.size w1 ws := by rw [<- hws]; exact (Below.refl _ _).alloc (Nat.le_refl _) _
   have hss : ws.heap.size = w1.heap.size + 1 := by rw [<- hws]; simp
   have hAt : SetsAt (fun b => b < ws.heap.size) w1.heap.size c' ws := by
    refine ⟨⟨o', cap', ?_, HR1.out.kept hbs, fun a ha hp => ?_⟩, below5 hbw1 hbs⟩
    ·rw [<- hws]; exact Box.new w1 _ _
    ·have := hoo a ha hp
     exact ⟨by show _ < _; omega, by omega⟩
   have hMs : OfM w0.heap.size w0 ws ws := by
    have h := hm1.on hbs (by omega)
    exact ⟨h.r0, h.r1, h.below, Nat.le_refl _⟩
   have hwb : w.heap.size <= w1.heap.size := hbw1.size
   have HBW1 := Lib.hid hbw1
   clear hws hm1 hbs hoo hbw1
   refine rf_outer rfl (enters_of Tryz.func145 (by kernel_rfl) rfl) (sets1_iter (fun b => b < ws.heap.size) w1.heap.size hwb (by show _ < _; omega) c' (by omega))
    (fun A B h => h.others) (fun A B C h k => setKp.trans h k) (fun A ob => setKp.put (by show ¬ _ < _; omega) (by omega) A ob)
    (fun _ _ _ _ h => by obtain ⟨_, _, _, _, _, _, _, _, _, _, h, _⟩ := h; subst h; rfl)
    (fun k W => k = c' /\ OfM w0.heap.size w0 ws W) (OfX w0.heap.size w1.heap.size w0 ws c')
    (fun _ _ _ h e => ⟨h.1, h.2.st e (by omega)⟩) (fun _ _ _ h e => h.st e (by omega))
    (fun _ A r ob h hr => ⟨h.1, h.2.put (by omega) (by omega) hr ob⟩) (fun _ A r ob h hr => h.put (by omega) (by omega) hr ob)
    (fun r => ⟨rfl, ?start⟩) (fun r => ?pre) ?round ?done ?stop
   case start => exact hMs.on (((Below.refl _ _).alloc (Nat.le_refl _) _).alloc (by simp) _) (by omega)
   case pre => exact hAt.on (((Below.refl _ _).alloc (Nat.le_refl _) _).alloc (by simp) _)
   case round =>
    rintro lp k k' v W ⟨rfl, hM⟩ ⟨x, xs, n, rfl, hn, hle, rfl, vo, od, cd, rfl, hvo, hdt, hne0⟩
    have hne : ∀ a, od = some a -> w1.heap.size < a.block := fun a ha => (hne0 a ha).1
    clear hne0
    obtain ⟨ov', cv', rfl, _, _⟩ := hvo.form
    obtain ⟨tt, htt⟩ : ∃ tt, Rs.ttl x.1.2 (plE ((x :: xs).take n)) = tt := ⟨_, rfl⟩
    rw [htt]
    have HTT := Lib.hid htt
    have HN := Lib.hid hn
    have HM2 := Lib.hid hM
    have HVO := Lib.hid hvo
    have HDT := Lib.hid hdt
    obtain ⟨ln, hln⟩ : ∃ ln, x.1.2.owner.length = ln := ⟨_, rfl⟩
    rw [hln] at HVO ⊢
    obtain ⟨Wa, hWa⟩ : ∃ Wa, W.alloc (.cells #[.slice none 0 0, .int .i64 0, .int .u32 0, .slice none 0 0] 116) = Wa := ⟨_, rfl⟩
    have hblk : Blk W.heap.size #[.slice none 0 0, .int .i64 0, .int .u32 0, .slice none 0 0] 116 Wa := by subst hWa; exact Blk.new W _ _
    have hba : Below W.heap.size W Wa := by subst hWa; exact (Below.refl _ _).alloc (Nat.le_refl _) _
    obtain ⟨Wb, hWb⟩ : ∃ Wb, (((Wa.setCell ⟨W.heap.size, 0, none⟩ (.slice ov' ln cv')).setCell ⟨W.heap.size, 1, none⟩ (.int .i64 x.1.2.type)).setCell ⟨W.heap.size, 2, none⟩ (.int .u32 (tt : Int))).setCell ⟨W.heap.size, 3, none⟩ (.slice od n cd) = Wb := ⟨_, rfl⟩
    have hblb : Blk W.heap.size #[.slice ov' ln cv', .int .i64 x.1.2.type, .int .u32 (tt : Int), .slice od n cd] 116 Wb := by
     subst hWb; exact (((hblk.setAt 0 _).setAt 1 _).setAt 2 _).setAt 3 _
    have hbb : Below W.heap.size W Wb := by
     subst hWb
     exact (((hba.setCell (p := ⟨W.heap.size, 0, none⟩) (Nat.le_refl _) _).setCell (p := ⟨W.heap.size, 1, none⟩) (Nat.le_refl _) _).setCell (p := ⟨W.heap.size, 2, none⟩) (Nat.le_refl _) _).setCell (p := ⟨W.heap.size, 3, none⟩) (Nat.le_refl _) _
    have a0 : Wa.cell? ⟨W.heap.size, 0, none⟩ = some _ := hblk.cell 0
    have a1 : Wa.cell? ⟨W.heap.size, 1, none⟩ = some _ := hblk.cell 1
    have a2 : Wa.cell? ⟨W.heap.size, 2, none⟩ = some _ := hblk.cell 2
    have a3 : Wa.cell? ⟨W.heap.size, 3, none⟩ = some _ := hblk.cell 3
    have z0 := hblk.frozen 0
    have z1 := hblk.frozen 1
    have z2 := hblk.frozen 2
    have z3 := hblk.frozen 3
    have HBB := Lib.hid hbb
    have HBL := Lib.hid hblb
    have hsW := hM.size
    clear hblk hba hbb hblb hM hvo hdt htt hn hMs hAt
    gi_wp2
    refine ⟨below_keepsOthers HBB.out, ⟨keepH.of_below HBB.out (fun b hb => by have : b < ws.heap.size := hb; omega), fun h => below5 h HBB.out⟩, fun r ob hl hr => ?_⟩
    clear a0 a1 a2 a3 z0 z1 z2 z3 hWa hWb
    obtain ⟨Wp, hWp⟩ : ∃ Wp, Wb.putObj (ws.heap.size + 1) (.loop ob) = Wp := ⟨_, rfl⟩
    have hMb := HM2.out.on HBB.out (by omega)
    have hblp : Blk W.heap.size #[.slice ov' ln cv', .int .i64 x.1.2.type, .int .u32 (tt : Int), .slice od n cd] 116 Wp := by subst hWp; exact HBL.out.put hr _
    have hMp : OfM w0.heap.size w0 ws Wp := by subst hWp; exact hMb.put (by omega) (by omega) hr _
    have hdp : DatsRd (.slice od n cd) ((x :: xs).take n) Wp := by subst hWp; exact (HDT.out.below HBB.out).cells_kept (CellsKept.put hr _)
    have hWsz : w0.heap.size + 2 <= W.heap.size := by omega
    obtain ⟨Wq, hWq⟩ : ∃ Wq, ((((Wp.setCell ⟨w0.heap.size, 0, none⟩ (.slice ov' ln cv')).setCell ⟨w0.heap.size, 1, none⟩ (.int .i64 x.1.2.type)).setCell ⟨w0.heap.size, 2, none⟩ (.int .u32 (tt : Int))).setCell ⟨w0.heap.size, 3, none⟩ (.slice od n cd)).setCell ⟨w0.heap.size + 1, 0, none⟩ (.bool true) = Wq := ⟨_, rfl⟩
    have f0 : Wp.cell? ⟨W.heap.size, 0, none⟩ = some _ := hblp.cell 0
    have f1 : Wp.cell? ⟨W.heap.size, 1, none⟩ = some _ := hblp.cell 1
    have f2 : Wp.cell? ⟨W.heap.size, 2, none⟩ = some _ := hblp.cell 2
    have f3 : Wp.cell? ⟨W.heap.size, 3, none⟩ = some _ := hblp.cell 3
    have g0 : Wp.cell? ⟨w0.heap.size, 0, none⟩ = some _ := hMp.r0.cell 0
    have g1 : Wp.cell? ⟨w0.heap.size, 1, none⟩ = some _ := hMp.r0.cell 1
    have g2 : Wp.cell? ⟨w0.heap.size, 2, none⟩ = some _ := hMp.r0.cell 2
    have g3 : Wp.cell? ⟨w0.heap.size, 3, none⟩ = some _ := hMp.r0.cell 3
    have g4 := hMp.r1.cell
    have y0 := hMp.r0.frozen 0
    have y1 := hMp.r0.frozen 1
    have y2 := hMp.r0.frozen 2
    have y3 := hMp.r0.frozen 3
    have y4 := hMp.r1.frozen
    have HKO : Hid (KeepsOthers Wp Wq) := by
     subst hWq
     exact ((((KeepsOthers.setCell _ _ _).trans (KeepsOthers.setCell _ _ _)).trans (KeepsOthers.setCell _ _ _)).trans (KeepsOthers.setCell _ _ _)).trans (KeepsOthers.setCell _ _ _)
    have HQ0 : Hid (Blk w0.heap.size #[.slice ov' ln cv', .int .i64 x.1.2.type, .int .u32 (tt : Int), .slice od n cd] 116 Wq) := by
     subst hWq
     exact ((((hMp.r0.setAt 0 _).setAt 1 _).setAt 2 _).setAt 3 _).set (by omega) _
    have HQ1 : Hid (Box (w0.heap.size + 1) 4 (.bool true) Wq) := by
     subst hWq
     exact ((((hMp.r1.setOther (by omega) _).setOther (by omega) _).setOther (by omega) _).setOther (by omega) _).set _
    have HQD : Hid (DatsRd (.slice od n cd) ((x :: xs).take n) Wq) := by
     subst hWq
     have hq : ∀ b, b < w1.heap.size -> ∀ a, od = some a -> a.block ≠ b := fun b hb a ha => by have := hne a ha; omega
     exact ((((hdp.set (hq w0.heap.size (by omega)) _).set (hq w0.heap.size (by omega)) _).set (hq w0.heap.size (by omega)) _).set (hq w0.heap.size (by omega)) _).set (hq (w0.heap.size + 1) (by omega)) _
    have HQB : Hid (Below w0.heap.size w0 Wq) := by
     subst hWq
     exact ((((hMp.below.setCell (p := ⟨w0.heap.size, 0, none⟩) (Nat.le_refl _) _).setCell (p := ⟨w0.heap.size, 1, none⟩) (Nat.le_refl _) _).setCell (p := ⟨w0.heap.size, 2, none⟩) (Nat.le_refl _) _).setCell (p := ⟨w0.heap.size, 3, none⟩) (Nat.le_refl _) _).setCell (p := ⟨w0.heap.size + 1, 0, none⟩) (by simp) _
    have HQS : Hid (ws.heap.size <= Wq.heap.size) := by
     subst hWq
     have := hMp.size
     show ws.heap.size <= _
     simpa [World.setCell] using this
    clear hMb hblp hMp hdp hr
    rw [hWp]
    gi_wp2
    refine ⟨HKO.out, rfl, x, xs, .slice ov' ln cv', od, cd, rfl, ?_, HQ1.out, HVO.out, ?_, hne, HQB.out, HQS.out⟩
    ·rw [<- HN.out, HTT.out]; exact HQ0.out
    ·rw [<- HN.out]; exact HQD.out
   case done =>
    rintro k W rfl ⟨hk, hM⟩ hKd
    have hx1 := hM.r1.frozen
    have g4 := hM.r1.cell
    have g0 : W.cell? ⟨w0.heap.size, 0, none⟩ = some _ := hM.r0.cell 0
    have g1 : W.cell? ⟨w0.heap.size, 1, none⟩ = some _ := hM.r0.cell 1
    have g2 : W.cell? ⟨w0.heap.size, 2, none⟩ = some _ := hM.r0.cell 2
    have g3 : W.cell? ⟨w0.heap.size, 3, none⟩ = some _ := hM.r0.cell 3
    have y0 := hM.r0.frozen 0
    have y1 := hM.r0.frozen 1
    have y2 := hM.r0.frozen 2
    have y3 := hM.r0.frozen 3
    obtain ⟨Wq, hWq⟩ : ∃ Wq, ((((W.setCell ⟨w0.heap.size, 0, none⟩ (.slice none 0 0)).setCell ⟨w0.heap.size, 1, none⟩ (.int .i64 0)).setCell ⟨w0.heap.size, 2, none⟩ (.int .u32 0)).setCell ⟨w0.heap.size, 3, none⟩ (.slice none 0 0)).setCell ⟨w0.heap.size + 1, 0, none⟩ (.bool false) = Wq := ⟨_, rfl⟩
    have HQ0 : Hid (Blk w0.heap.size #[.slice none 0 0, .int .i64 0, .int .u32 0, .slice none 0 0] 116 Wq) := by
     subst hWq
     exact ((((hM.r0.setAt 0 _).setAt 1 _).setAt 2 _).setAt 3 _).set (by omega) _
    have HQ1 : Hid (Box (w0.heap.size + 1) 4 (.bool false) Wq) := by
     subst hWq
     exact ((((hM.r1.setOther (by omega) _).setOther (by omega) _).setOther (by omega) _).setOther (by omega) _).set _
    have HQB : Hid (Below w0.heap.size w0 Wq) := by
     subst hWq
     exact ((((hM.below.setCell (p := ⟨w0.heap.size, 0, none⟩) (Nat.le_refl _) _).setCell (p := ⟨w0.heap.size, 1, none⟩) (Nat.le_refl _) _).setCell (p := ⟨w0.heap.size, 2, none⟩) (Nat.le_refl _) _).setCell (p := ⟨w0.heap.size, 3, none⟩) (Nat.le_refl _) _).setCell (p := ⟨w0.heap.size + 1, 0, none⟩) (by simp) _
    have HQS : Hid (ws.heap.size <= Wq.heap.size) := by
     subst hWq
     have := hM.size
     show ws.heap.size <= _
     simpa [World.setCell] using this
    have HQK : Hid (Wq.heap[ws.heap.size]? = some (.deferred (some []))) := by
     subst hWq
     exact (Below.heap_setCell _ _ _ _ (by simp; omega)).trans ((Below.heap_setCell _ _ _ _ (by simp; omega)).trans ((Below.heap_setCell _ _ _ _ (by simp; omega)).trans ((Below.heap_setCell _ _ _ _ (by simp; omega)).trans ((Below.heap_setCell _ _ _ _ (by simp; omega)).trans hKd))))
    subst hk
    clear hM hKd hMs hAt
    gi_wp2
    have hcq := CellsKept.putD HQK.out (.deferred none)
    have q0 := hcq.cell (HQ0.out.cell 0)
    have q1 := hcq.cell (HQ0.out.cell 1)
    have q2 := hcq.cell (HQ0.out.cell 2)
    have q3 := hcq.cell (HQ0.out.cell 3)
    have q4 := hcq.cell HQ1.out.cell
    have hK2 := HQK.out
    refine leaveD (v := .tuple #[.agg #[.slice none 0 0, .int .i64 0, .int .u32 0, .slice none 0 0], .bool false]) rfl hK2 (by simp at q0 q1 q2 q3; simp [results, Tryz.results66, go_sem, q0, q1, q2, q3, q4]) ?_
    exact ⟨[], _, HCP.out, Nat.zero_le _, rfl, rfl, below_putD HQB.out (by omega) (by have := HQS.out; omega) _⟩
   case stop =>
    rintro c W ⟨rfl, x, xs, vo, od, cd, rfl, h2, h3, h4, h5, h6, h7, h8⟩ hKd
    obtain ⟨n, hn⟩ : ∃ n, Rs.run x.1.2 (plE (x :: xs)) = n := ⟨_, rfl⟩
    obtain ⟨tt, htt⟩ : ∃ tt, Rs.ttl x.1.2 (plE ((x :: xs).take n)) = tt := ⟨_, rfl⟩
    rw [hn] at h2 h5
    rw [htt] at h2
    have HN := Lib.hid hn
    have HTT := Lib.hid htt
    have H2 := Lib.hid h2
    have H3 := Lib.hid h3
    have H5 := Lib.hid h5
    have H7 := Lib.hid h7
    have HKD := Lib.hid hKd
    clear h2 h3 h5 h7 hKd hMs hAt hn htt
    gi_wp2
    have hcq := CellsKept.putD HKD.out (.deferred none)
    have q0 := hcq.cell (H2.out.cell 0)
    have q1 := hcq.cell (H2.out.cell 1)
    have q2 := hcq.cell (H2.out.cell 2)
    have q3 := hcq.cell (H2.out.cell 3)
    have q4 := hcq.cell H3.out.cell
    have hK2 := HKD.out
    refine leaveD (v := .tuple #[.agg #[vo, .int .i64 x.1.2.type, .int .u32 (tt : Int), .slice od n cd], .bool true]) rfl hK2 (by simp at q0 q1 q2 q3; simp [results, Tryz.results66, go_sem, q0, q1, q2, q3, q4]) ?_
    refine ⟨x :: xs, _, HCP.out, hcl, rfl, ⟨vo, od, cd, ?_, h4, ?_⟩, below_putD H7.out (by omega) (by omega) _⟩
    ·rw [HN.out, HTT.out]
    ·rw [HN.out]; exact H5.out.cells_kept hcq
end
end Go.Proofs.YtneghhbclefmoaaGreat
