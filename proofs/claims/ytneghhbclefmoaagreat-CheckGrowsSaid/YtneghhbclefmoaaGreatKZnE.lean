/- Zones: the cut that a name is under; where a name lies. -/
import Derived.Test.YtneghhbclefmoaaGreatKZnD
namespace Go.Proofs.YtneghhbclefmoaaGreat
open Go.RowKit Go.Shelf Go.Sort
set_option maxRecDepth 100000
attribute [local go_sem] Oper.semAt_some
theorem cell_obj {W : World} {p : Addr} {x : Value} (h : W.cell? p = some x) : ∃ c t f, W.heap[p.block]? = some (.cells c t f) /\ p.spot = none /\ c[p.off]? = some x := by
 unfold World.cell? at h
 split at h
 ·rename_i c t f hc
  split at h
  ·cases h
  ·rename_i hs
   exact ⟨c, t, f, hc, by simpa using hs, h⟩
 ·cases h
theorem CellsKept.cell {W W' : World} (h : CellsKept W W') {p : Addr} {x : Value} (hc : W.cell? p = some x) : W'.cell? p = some x := by
 obtain ⟨c, t, f, h1, h2, h3⟩ := cell_obj hc
 unfold World.cell?
 rw [h _ _ _ _ h1]
 simp [h2, h3]
theorem CellsKept.trans {A B C : World} (h : CellsKept A B) (k : CellsKept B C) : CellsKept A C := fun i c t f hi => k i c t f (h i c t f hi)
theorem Rd.cells_kept {v l} {W W' : World} (h : Rd v l W) (hk : CellsKept W W') : Rd v l W' := by
 obtain ⟨o, cap, h1, h2, h3, h4, h5⟩ := h
 refine ⟨o, cap, h1, h2, h3, h4, fun j hj => ?_⟩
 obtain ⟨a, ha, hc⟩ := h5 j hj
 exact ⟨a, ha, hk.cell hc⟩
theorem Rd.put {v l} {W : World} (h : Rd v l W) {L r} (hr : W.heap[L]? = some (.loop r)) (o : Obj) : Rd v l (W.putObj L o) := h.cells_kept (CellsKept.put hr o)
theorem CellsKept.putD {W : World} {l d} (hr : W.heap[l]? = some (.deferred d)) (o : Obj) : CellsKept W (W.putObj l o) :=
 fun k c t f hk => (World.putObj_heap_other (fun e => by rw [e, hr] at hk; cases hk)).trans hk
theorem Rd.setBox {v l} {W : World} (h : Rd v l W) {b : Nat} {t : TypeId} {u : Value} (hb : Box b t u W) (hu : ∀ s, u ≠ S s) (u' : Value) : Rd v l (W.setCell ⟨b, 0, none⟩ u') := by
 obtain ⟨o, cap, h1, h2, h3, h4, h5⟩ := h
 refine ⟨o, cap, h1, h2, h3, h4, fun j hj => ?_⟩
 obtain ⟨a, ha, hc⟩ := h5 j hj
 refine ⟨a, ha, ?_⟩
 have hne : (a.add j).block ≠ b := fun e => by
  obtain ⟨c, t', f, k1, k2, k3⟩ := cell_obj hc
  unfold Box at hb
  rw [e, hb] at k1
  cases k1
  rw [Array.getElem?_eq_some_iff] at k3
  obtain ⟨k4, k5⟩ := k3
  have k6 : (a.add j).off = 0 := by simpa using k4
  simp only [k6, List.getElem_toArray, List.getElem_cons_zero] at k5
  exact hu _ k5
 rw [World.cell?_of_block (Below.heap_setCell _ _ _ _ hne)]; exact hc
theorem Blk.put {b cs t W l r} (h : Blk b cs t W) (hr : W.heap[l]? = some (.loop r)) (o : Obj) : Blk b cs t (W.putObj l o) := CellsKept.put hr o _ _ _ _ h
theorem Blk.set {b cs t W} (h : Blk b cs t W) {c o : Nat} (hne : b ≠ c) (u : Value) : Blk b cs t (W.setCell ⟨c, o, none⟩ u) := (Below.heap_setCell _ _ _ _ hne).trans h
structure CutM (B : Nat) (w ws : World) (zo vr : Value) (W : World) : Prop where
 zb : Blk B #[zo, vr] 29 W
 r0 : Box (B + 1) 23 (.slice none 0 0) W
 r1 : Box (B + 2) 4 (.bool false) W
 kp : keepB ws.heap.size ws W
 below : Below B w W
 size : ws.heap.size <= W.heap.size
theorem CutM.put {B w ws zo vr L} (hL : ws.heap.size <= L) (hB : B <= ws.heap.size) {A : World} {r : Loop} (h : CutM B w ws zo vr A) (hr : A.heap[L]? = some (.loop r)) (o : Obj) : CutM B w ws zo vr (A.putObj L o) :=
 ⟨h.zb.put hr o, h.r0.put hr o, h.r1.put hr o, h.kp.trans (keepB.put hL A o), below_put h.below (by omega) hr (by have := h.size; omega) o, by simpa using h.size⟩
theorem CutM.on {B w ws zo vr} {A W : World} (h : CutM B w ws zo vr A) (hb : Below A.heap.size A W) (hBA : B <= A.heap.size) : CutM B w ws zo vr W :=
 ⟨h.zb.below hb, h.r0.below hb, h.r1.below hb, h.kp.trans ((keepB.of_below hb).mono h.size), h.below.trans (hb.mono hBA), by have := hb.size; have := h.size; omega⟩
theorem Zn.cutF_hit {ol : Nat} {L : List Rc.PRec} {n : Zn.Nam} {k : Nat} (h1 : ol < (n.drop k).length) (h2 : Zn.has L (n.drop k) 2 = true) : Zn.cutF ol L n (k + 1) = some k := by
 rw [Zn.cutF, if_pos (by simp only [Bool.and_eq_true, decide_eq_true_eq]; exact ⟨h1, h2⟩)]
theorem Zn.cutF_short {ol : Nat} {L : List Rc.PRec} {n : Zn.Nam} {k : Nat} (h1 : ¬ ol < (n.drop k).length) : Zn.cutF ol L n (k + 1) = Zn.cutF ol L n k := by
 rw [Zn.cutF, if_neg (by simp only [Bool.and_eq_true, decide_eq_true_eq]; exact fun h => h1 h.1)]
theorem Zn.cutF_miss {ol : Nat} {L : List Rc.PRec} {n : Zn.Nam} {k : Nat} (h2 : Zn.has L (n.drop k) 2 = false) : Zn.cutF ol L n (k + 1) = Zn.cutF ol L n k := by
 rw [Zn.cutF, if_neg (by simp only [Bool.and_eq_true, decide_eq_true_eq]; exact fun h => by rw [h2] at h; cases h.2)]
def CutX (B : Nat) (w ws : World) (n : List (List UInt8)) (res : Option Nat) (c : Code) (W : World) : Prop :=
 c = .ret /\ ∃ k v, res = some k /\ Rd v (n.drop k) W /\ Box (B + 1) 23 v W /\ Box (B + 2) 4 (.bool true) W /\ Below B w W /\ ws.heap.size <= W.heap.size
theorem CutX.put {B w ws n res L} (hL : ws.heap.size <= L) (hB : B <= ws.heap.size) {c : Code} {A : World} {r : Loop} (h : CutX B w ws n res c A) (hr : A.heap[L]? = some (.loop r)) (o : Obj) : CutX B w ws n res c (A.putObj L o) := by
 obtain ⟨h0, k, v, h1, h2, h3, h4, h5, h6⟩ := h
 exact ⟨h0, k, v, h1, h2.put hr o, h3.put hr o, h4.put hr o, below_put h5 (by omega) hr (by omega) o, by simpa using h6⟩
def CutR (o : Zn.Nam) (L : List Rc.PRec) (n : Zn.Nam) (w : World) (e : Ending) (w' : World) : Prop :=
 ∃ v, e = .returned (.tuple #[v, .bool (Zn.isCut o L n)]) /\ Rd v (Zn.cut o L n) w' /\ Below w.heap.size w w'
theorem Zn.cut_some {o : Zn.Nam} {L : List Rc.PRec} {n : Zn.Nam} {k : Nat} (h : Zn.cutAt o L n = some k) : Zn.isCut o L n = true /\ Zn.cut o L n = n.drop k := by
 unfold Zn.isCut Zn.cut; rw [h]; exact ⟨rfl, rfl⟩
theorem Zn.cut_none {o : Zn.Nam} {L : List Rc.PRec} {n : Zn.Nam} (h : Zn.cutAt o L n = none) : Zn.isCut o L n = false /\ Zn.cut o L n = [] := by
 unfold Zn.isCut Zn.cut; rw [h]; exact ⟨rfl, rfl⟩
theorem Zn.cutAt_not {o : Zn.Nam} {L : List Rc.PRec} {n : Zn.Nam} (h : Nm.under n o = false) : Zn.cutAt o L n = none := by
 unfold Zn.cutAt; rw [if_neg (by rw [h]; exact Bool.false_ne_true)]
theorem Zn.cutAt_is {o : Zn.Nam} {L : List Rc.PRec} {n : Zn.Nam} (h : Nm.under n o = true) : Zn.cutAt o L n = Zn.cutF o.length L n (n.length - o.length + 1) := by
 unfold Zn.cutAt; rw [if_pos h]
theorem leaveM {F : Fence} {n : Nat} {P : Program} {fn : Func} {R : Ending -> World -> Prop} {a : Act} {w : World} {v : Value} (hd : a.defers = []) (hr : (results fn a.tmps).run P w = .ok v w) (hR : R (.returned v) w) : bodyPostM F n P fn R .ret a w := by
 show LeavesInM F n P fn a.tmps R a.defers .returning w
 rw [hd]
 exact ⟨v, hr, hR⟩
theorem leaveD {F : Fence} {n : Nat} {P : Program} {fn : Func} {R : Ending -> World -> Prop} {a : Act} {w : World} {v : Value} {b : Nat} (hd : a.defers = [{ target := .collected b, args := #[] }]) (hb : w.heap[b]? = some (.deferred (some []))) (hr : (results fn a.tmps).run P (w.putObj b (.deferred none)) = .ok v (w.putObj b (.deferred none))) (hR : R (.returned v) (w.putObj b (.deferred none))) : bodyPostM F n P fn R .ret a w := by
 show LeavesInM F n P fn a.tmps R a.defers .returning w
 rw [hd]
 exact ⟨by simp, .inl ⟨_, _, rfl, run_takeDeferred hb, v, hr, hR⟩⟩
def CutI (B : Nat) (w ws : World) (zo vr : Value) (o : Zn.Nam) (L : List Rc.PRec) (n : Zn.Nam) (k : Nat) (W : World) : Prop :=
 k <= n.length - o.length + 1 /\ Zn.cutF o.length L n (n.length - o.length + 1) = Zn.cutF o.length L n k /\ CutM B w ws zo vr W
theorem CutI.put {B w ws zo vr o L n K} (hL : ws.heap.size <= K) (hB : B <= ws.heap.size) (k : Nat) (A : World) (r : Loop) (ob : Obj) (h : CutI B w ws zo vr o L n k A) (hr : A.heap[K]? = some (.loop r)) : CutI B w ws zo vr o L n k (A.putObj K ob) :=
 ⟨h.1, h.2.1, h.2.2.put hL hB hr ob⟩
set_option maxHeartbeats 2000000 in
theorem zCutOf_any {w w0 : World} (zo vr vn : Value) (l : List (El w)) (o n : List (List UInt8)) (hb0 : Below w.heap.size w w0) (hv : RecsRd vr (l.map (·.1)) w0) (na : l.length <= 1000) (ho : Rd zo o w0) (no : NB o) (hn : Rd vn n w0) (nn : NB n) :
  Calls Tryz.prog 17 #[.agg #[zo, vr], vn] w0 (CutR o (plE l) n w0) := by
 obtain ⟨oo, co, rfl, _, _⟩ := ho.form
 obtain ⟨on, cn, rfl, _, _⟩ := hn.form
 obtain ⟨ov, cv, rfl⟩ : ∃ o cap, vr = .slice o l.length cap := by obtain ⟨_, o, cap, h, _⟩ := hv; exact ⟨o, cap, by rw [h, List.length_map]⟩
 obtain ⟨W3, hW3⟩ : ∃ W3, ((w0.alloc (.cells #[.slice oo o.length co, .slice ov l.length cv] 29)).alloc (.cells #[.slice none 0 0] 23)).alloc (.cells #[.bool false] 4) = W3 := ⟨_, rfl⟩
 have hbW : Below w0.heap.size w0 W3 := by
  subst hW3; exact (((Below.refl _ _).alloc (Nat.le_refl _) _).alloc (by simp) _).alloc (by simp; omega) _
 have b0 : Blk w0.heap.size #[.slice oo o.length co, .slice ov l.length cv] 29 W3 := by
  subst hW3; exact ((Blk.new w0 _ _).alloc _).alloc _
 have b1 : Box (w0.heap.size + 1) 23 (.slice none 0 0) W3 := by
  subst hW3
  have := (Box.new (w0.alloc (.cells #[.slice oo o.length co, .slice ov l.length cv] 29)) 23 (.slice none 0 0)).alloc (.cells #[.bool false] 4)
  rwa [World.size_alloc] at this
 have b2 : Box (w0.heap.size + 2) 4 (.bool false) W3 := by
  subst hW3
  have := Box.new ((w0.alloc (.cells #[.slice oo o.length co, .slice ov l.length cv] 29)).alloc (.cells #[.slice none 0 0] 23)) 4 (.bool false)
  rwa [World.size_alloc, World.size_alloc] at this
 have e12 : w0.heap.size + 1 + 1 = w0.heap.size + 2 := rfl
 have s3 : W3.heap.size = w0.heap.size + 3 := by subst hW3; simp
 have c00 : W3.cell? ⟨w0.heap.size, 0, none⟩ = some _ := b0.cell 0
 have c01 : W3.cell? ⟨w0.heap.size, 1, none⟩ = some _ := b0.cell 1
 have HB := Lib.hid hbW
 have B0 := Lib.hid b0
 have B1 := Lib.hid b1
 have B2 := Lib.hid b2
 have HN := Lib.hid (hn.below hbW)
 have HN0 := Lib.hid hn
 have HO := Lib.hid (ho.below hbW)
 have HV := Lib.hid hv
 have HB0 := Lib.hid hb0
 have NN := Lib.hid nn
 have NO := Lib.hid no
 have ln : (n.length : Int) <= 1000 := by have := nn.1; omega
 have lo : (o.length : Int) <= 1000 := by have := no.1; omega
 clear hv hn ho nn no hb0 hbW b0
 rcases hu : Nm.under n o with _ | _
 ·have HU := Lib.hid hu
  clear hu b1 b2
  refine (callsIn_wide (n := 0)).1 ?_
  refine callsIn_of_wp_marks Tryz.func17 rfl trivial ?_ rfl
  simp only [Tryz.ntmps17, List.size_toArray, List.length_cons, List.length_nil, Nat.reduceAdd, Nat.reduceSub, Array.replicate_succ, Array.replicate_zero, List.push_toArray, List.append_toArray, List.nil_append, List.cons_append]
  gi_wp2_with (gi_at_call 38; refine (callsIn_wide.2 (nUnder_any _ _ n o _ HN.out HO.out NN.out NO.out)).mono ?_; rintro e w1 ⟨rfl, b1⟩; rw [HU.out]; have hx1 := (B1.out.below b1).frozen; have hx2 := (B2.out.below b1).frozen; have hy1 := (B1.out.below b1).cell; have hy2 := (B2.out.below b1).cell)
  have g1 := ((B1.out.below b1).set (.slice none 0 0)).setOther (c := w0.heap.size + 2) (o := 0) (by omega) (.bool false)
  have g2 := ((B2.out.below b1).setOther (c := w0.heap.size + 1) (o := 0) (by omega) (.slice none 0 0)).set (.bool false)
  have g1c := g1.cell
  have g2c := g2.cell
  refine leaveM (v := .tuple #[.slice none 0 0, .bool false]) rfl (by simp [results, Tryz.results17, go_sem, g1c, g2c]) ?_
  have hc := Zn.cut_none (L := plE l) (Zn.cutAt_not HU.out)
  exact ⟨_, by rw [hc.1], by rw [hc.2]; exact Rd.nil _, ((below5 HB.out b1).setCell (p := ⟨w0.heap.size + 1, 0, none⟩) (by simp) _).setCell (p := ⟨w0.heap.size + 2, 0, none⟩) (by simp) _⟩
 ·have HU := Lib.hid hu
  have hle := Nm.under_le' hu
  have HCA := Lib.hid (Zn.cutAt_is (L := plE l) hu)
  clear hu b1 b2
  refine (callsIn_wide (n := 0)).1 ?_
  refine callsIn_of_wp_marks Tryz.func17 rfl trivial ?_ rfl
  simp only [Tryz.ntmps17, List.size_toArray, List.length_cons, List.length_nil, Nat.reduceAdd, Nat.reduceSub, Array.replicate_succ, Array.replicate_zero, List.push_toArray, List.append_toArray, List.nil_append, List.cons_append]
  gi_wp2_with (gi_at_call 38; refine (callsIn_wide.2 (nUnder_any _ _ n o _ HN.out HO.out NN.out NO.out)).mono ?_; rintro e w1 ⟨rfl, b1⟩; rw [HU.out]; have d00 : w1.cell? ⟨w0.heap.size, 0, none⟩ = some _ := (B0.out.below b1).cell 0; have d01 : w1.cell? ⟨w0.heap.size, 1, none⟩ = some _ := (B0.out.below b1).cell 1)
  gi_wp2_with (gi_at_call 52; refine (callsIn_wide.2 (down_any _ _ _ _ _ _)).mono ?_; rintro e ws ⟨rfl, hws⟩)
  have hb2 : Below w1.heap.size w1 ws := by rw [<- hws]; exact ((Below.refl _ _).alloc (Nat.le_refl _) _).alloc (by simp) _
  have ss : ws.heap.size = w1.heap.size + 2 := by rw [<- hws]; simp
  have hcn : ws.cell? ⟨w1.heap.size + 1, 0, none⟩ = some (.slice on n.length cn) := by
   rw [<- hws]
   have := (Blk.new (w1.alloc (.cells #[.slice oo o.length co, .slice ov l.length cv] 29)) #[.slice on n.length cn] 23).cell 0
   rwa [World.size_alloc] at this
  have hcz : ws.cell? ⟨w1.heap.size, 0, none⟩ = some (.slice oo o.length co) := by rw [<- hws]; exact ((Blk.new w1 _ _).alloc _).cell 0
  have hbs : Below W3.heap.size W3 ws := b1.trans (hb2.mono b1.size)
  have hs1 : w0.heap.size + 3 <= ws.heap.size := by have := hbs.size; omega
  have hM0 : CutM w0.heap.size w0 ws (.slice oo o.length co) (.slice ov l.length cv) ws := ⟨B0.out.below hbs, B1.out.below hbs, B2.out.below hbs, keepB.refl _ _, below5 HB.out hbs, Nat.le_refl _⟩
  have HNS := Lib.hid HN0.out
  have hnl : n.length <= 1000 := NN.out.1
  clear hws hb2 d00 d01 c00 c01 s3 hW3 hbs b1
  refine rf_outer rfl (enters_of Tryz.func104 (by kernel_rfl) rfl) (down1_iter (fun b => b < ws.heap.size) w0 ws (w1.heap.size + 1) w1.heap.size (by show _ < _; omega) (by show _ < _; omega) on oo cn co n o hcn hcz HNS.out hnl hle)
   (fun A B h => by subst h; exact KeepsOthers.refl _) (fun A B C h k => keepB.trans h k) (fun A ob => keepB.put (by omega) A ob)
   (fun _ _ _ _ h => by obtain ⟨_, _, _, _, h, _⟩ := h; subst h; rfl)
   (CutI w0.heap.size w0 ws (.slice oo o.length co) (.slice ov l.length cv) o (plE l) n)
   (CutX w0.heap.size w0 ws n (Zn.cutF o.length (plE l) n (n.length - o.length + 1)))
   (fun _ _ _ h e => by subst e; exact h) (fun _ _ _ h e => by subst e; exact h)
   (CutI.put (by omega) (by omega)) (fun _ _ _ ob h hr => h.put (by omega) (by omega) hr ob)
   (fun r => ⟨Nat.le_refl _, rfl, ?start⟩) (fun r => ?pre) ?round ?done ?stop
  case start => exact hM0.on (((Below.refl _ _).alloc (Nat.le_refl _) _).alloc (by simp) _) (by omega)
  case pre => exact keepB.of_below (((Below.refl _ _).alloc (Nat.le_refl _) _).alloc (by simp) _)
  case round =>
   rintro lp k k' v W hI ⟨rfl, hk', ox, cx, rfl, hx⟩
   gi_wp2
   refine rfNext_same (keepB.refl _ _) hI (CutI.put (K := ws.heap.size + 1) (by omega) (by omega)) ?_
   clear hI hM0
   rintro W r rfl hr ⟨h1, h2, hM⟩
   have hxl : (n.drop k').length = n.length - k' := by simp
   obtain ⟨m, hm⟩ : ∃ m, n.length - k' = m := ⟨_, rfl⟩
   rw [hm] at hx hxl ⊢
   obtain ⟨x, hxd⟩ : ∃ x, n.drop k' = x := ⟨_, rfl⟩
   have NX := Lib.hid (show NB x by rw [<- hxd]; exact NN.out.drop k')
   have HX := Lib.hid (show Rd (.slice ox m cx) x W by rw [<- hxd]; exact hx.below hM.below)
   have HM := Lib.hid hM
   have H2 := Lib.hid h2
   have HXD := Lib.hid hxd
   have hm1 : (m : Int) <= 1000 := by omega
   have c00 : W.cell? ⟨w0.heap.size, 0, none⟩ = some _ := hM.zb.cell 0
   have c01 : W.cell? ⟨w0.heap.size, 1, none⟩ = some _ := hM.zb.cell 1
   have hsz := hM.size
   rw [hxd] at hxl
   clear hM h2 hx hr
   by_cases hgt : o.length < m
   ·have hgz : (o.length : Int) < (m : Int) := by omega
    have hgd : decide ((o.length : Int) < (m : Int)) = true := by simp [hgt]
    have hgd2 : decide (o.length < m) = true := by simp [hgt]
    have HC := Lib.hid (zHas_any (.slice oo o.length co) (.slice ov l.length cv) (.slice ox m cx) l x 2 (below5 HB0.out HM.out.below) (HV.out.kept HM.out.below) na HX.out NX.out)
    rcases hh : Zn.has (plE l) x 2 with _ | _
    ·have HH := Lib.hid hh
     clear hh
     gi_wp2_with fail
     refine (CallsIn.inRound _ (callsIn_wide.2 HC.out)).mono ?_
     rintro e W2 ⟨rfl, bb⟩
     rw [HH.out]
     gi_wp2_with fail
     refine ⟨below_keepsOthers bb, (keepB.of_below bb).mono hsz, by omega, ?_, HM.out.on bb (by omega)⟩
     rw [H2.out, Zn.cutF_miss (by rw [HXD.out]; exact HH.out)]
    ·have HH := Lib.hid hh
     clear hh
     gi_wp2_with fail
     refine (CallsIn.inRound _ (callsIn_wide.2 HC.out)).mono ?_
     rintro e W2 ⟨rfl, bb⟩
     rw [HH.out]
     gi_wp2_with fail
     refine (CallsIn.inRound _ (callsIn_wide.2 (clone_any _ x _ (HX.out.below bb) NX.out))).mono ?_
     rintro e W4 ⟨v4, rfl, hr4, b4⟩
     gi_wp2_with fail
     refine (CallsIn.inRound _ (callsIn_wide.2 (clip_any _ x _ hr4.rdOf NX.out))).mono ?_
     rintro e W5 ⟨v5, rfl, hr5, rfl⟩
     obtain ⟨o5, c5, rfl, _, _⟩ := hr5.form
     rw [hxl] at hr5
     have bb4 := below5 bb b4
     have hM5 := HM.out.on bb4 (by omega)
     have hx1 := hM5.r0.frozen
     have hx2 := hM5.r1.frozen
     have hy1 := hM5.r0.cell
     have hy2 := hM5.r1.cell
     gi_wp2_with fail
     refine ⟨((below_keepsOthers bb4).trans (KeepsOthers.setCell _ _ _)).trans (KeepsOthers.setCell _ _ _), rfl, k', (.slice o5 m c5), ?_, ?_, ?_, ?_, ?_, ?_⟩
     ·rw [H2.out]; exact Zn.cutF_hit (by rw [HXD.out, hxl]; exact hgt) (by rw [HXD.out]; exact HH.out)
     ·rw [HXD.out]
      exact (hr5.setBox hM5.r0 (fun s h => by cases h) (.slice o5 m c5)).setBox (hM5.r1.setOther (c := w0.heap.size + 1) (o := 0) (by omega) (.slice o5 m c5)) (fun s h => by cases h) _
     ·exact (hM5.r0.set (.slice o5 m c5)).setOther (c := w0.heap.size + 2) (o := 0) (by omega) _
     ·exact (hM5.r1.setOther (c := w0.heap.size + 1) (o := 0) (by omega) (.slice o5 m c5)).set _
     ·exact (hM5.below.setCell (p := ⟨w0.heap.size + 1, 0, none⟩) (by simp) _).setCell (p := ⟨w0.heap.size + 2, 0, none⟩) (by simp) _
     ·simpa [World.setCell] using hM5.size
   ·have hgz : ¬ (o.length : Int) < (m : Int) := by omega
    have hgd : decide ((o.length : Int) < (m : Int)) = false := by simp; omega
    have hgd2 : decide (o.length < m) = false := by simp; omega
    gi_wp2_with fail
    refine ⟨KeepsOthers.refl _, keepB.refl _ _, by omega, ?_, HM.out⟩
    rw [H2.out, Zn.cutF_short (by rw [HXD.out, hxl]; exact hgt)]
  case done =>
   rintro k W rfl ⟨_, h2, hM⟩ hKd
   have hx1 := hM.r0.frozen
   have hx2 := hM.r1.frozen
   have hy1 := hM.r0.cell
   have hy2 := hM.r1.cell
   have H2 := Lib.hid h2
   have HM := Lib.hid hM
   have HKD := Lib.hid hKd
   clear h2 hM hM0 hKd
   gi_wp2_with fail
   have hM := HM.out
   have hK2 : ((W.setCell ⟨w0.heap.size + 1, 0, none⟩ (.slice none 0 0)).setCell ⟨w0.heap.size + 2, 0, none⟩ (.bool false)).heap[ws.heap.size]? = some (.deferred (some [])) := (Below.heap_setCell _ _ _ _ (by simp; omega)).trans ((Below.heap_setCell _ _ _ _ (by simp; omega)).trans HKD.out)
   have g1 := (((hM.r0.set (.slice none 0 0)).setOther (c := w0.heap.size + 2) (o := 0) (by omega) (.bool false)).putD hK2 (.deferred none)).cell
   have g2 := (((hM.r1.setOther (c := w0.heap.size + 1) (o := 0) (by omega) (.slice none 0 0)).set (.bool false)).putD hK2 (.deferred none)).cell
   refine leaveD (v := .tuple #[.slice none 0 0, .bool false]) rfl hK2 (by simp [results, Tryz.results17, go_sem, g1, g2]) ?_
   have hc := Zn.cut_none (L := plE l) (show Zn.cutAt o (plE l) n = none by rw [HCA.out, H2.out]; rfl)
   exact ⟨_, by rw [hc.1], by rw [hc.2]; exact Rd.nil _, below_putD ((hM.below.setCell (p := ⟨w0.heap.size + 1, 0, none⟩) (by simp) _).setCell (p := ⟨w0.heap.size + 2, 0, none⟩) (by simp) _) (by omega) (by have := hM.size; simp [World.setCell]; omega) _⟩
  case stop =>
   rintro c W ⟨rfl, k, v, h1, h2, h3, h4, h5, h6⟩ hKd
   have H1 := Lib.hid h1
   have H2 := Lib.hid h2
   have g1 := (h3.putD hKd (.deferred none)).cell
   have g2 := (h4.putD hKd (.deferred none)).cell
   have G := Lib.hid (And.intro g1 g2)
   have HKD := Lib.hid hKd
   have H5 := Lib.hid h5
   clear h1 h2 h3 h4 h5 g1 g2 hKd hM0
   gi_wp2_with fail
   have g1 := G.out.1
   have g2 := G.out.2
   obtain ⟨o5, c5, rfl, _, _⟩ := H2.out.form
   refine leaveD (v := .tuple #[.slice o5 (n.length - k) c5, .bool true]) rfl HKD.out (by simp [results, Tryz.results17, go_sem, g1, g2]; try rfl) ?_
   have hc := Zn.cut_some (L := plE l) (show Zn.cutAt o (plE l) n = some k by rw [HCA.out]; exact H1.out)
   exact ⟨_, by rw [hc.1], by rw [hc.2]; have := H2.out.cells_kept (CellsKept.putD HKD.out (.deferred none)); rw [List.length_drop] at this; exact this, below_putD H5.out (by omega) (by omega) _⟩
end Go.Proofs.YtneghhbclefmoaaGreat
