/- Sets of records: where a set leads to: the walk. -/
import Derived.Test.YtneghhbclefmoaaGreatKGr
section
namespace Go.Proofs.YtneghhbclefmoaaGreat
open Go.RowKit Go.Shelf Go.Sort
set_option maxRecDepth 100000
theorem DatsRd.el {w : World} {o : Option Addr} {n cap : Nat} {l : List (El w)} {W : World} (h : DatsRd (.slice o n cap) l W) : ∀ W', Below W.heap.size W W' -> ∀ (i : Nat) (hi : i < l.length) (c0 c1 c2 c3 c4 : Value), encD l[i] = [c0, c1, c2, c3, c4] -> ∃ a, o = some a /\
  W'.cell? (a.add (i * 5)) = some c0 /\ W'.cell? ⟨(a.add (i * 5)).block, (a.add (i * 5)).off + 1, none⟩ = some c1 /\ W'.cell? ⟨(a.add (i * 5)).block, (a.add (i * 5)).off + 2, none⟩ = some c2 /\ W'.cell? ⟨(a.add (i * 5)).block, (a.add (i * 5)).off + 3, none⟩ = some c3 /\ W'.cell? ⟨(a.add (i * 5)).block, (a.add (i * 5)).off + 4, none⟩ = some c4 := by
 intro W' hb i hi c0 c1 c2 c3 c4 hx
 obtain ⟨a, ha, h0, h1⟩ := (h.grd.below hb).at (by decide) i (by simpa using hi)
 simp only [List.getElem_map, hx] at h0 h1
 exact ⟨a, ha, h0, h1 1 (by decide) (by decide), h1 2 (by decide) (by decide), h1 3 (by decide) (by decide), h1 4 (by decide) (by decide)⟩
end Go.Proofs.YtneghhbclefmoaaGreat
end
section
namespace Go.Proofs.YtneghhbclefmoaaGreat
open Go.RowKit Go.Shelf Go.Sort
set_option maxRecDepth 100000
namespace Rs
open Rc
def sameDats : List PRec -> List PRec -> Bool
 | [], [] => true
 | x :: a, y :: b => (cmpD x y == 0) && sameDats a b
 | _, _ => false
end Rs
end Go.Proofs.YtneghhbclefmoaaGreat
end
section
namespace Go.Proofs.YtneghhbclefmoaaGreat
open Go.RowKit Go.Shelf Go.Sort
set_option maxRecDepth 100000
attribute [local go_sem] Oper.semAt_some
def grpE {w : World} : Nat -> List (El w) -> List (List (El w))
 | 0, _ => []
 | _, [] => []
 | f + 1, x :: l => (x :: l).take (Rs.run x.1.2 (plE (x :: l))) :: grpE f ((x :: l).drop (Rs.run x.1.2 (plE (x :: l))))
def grp {w : World} (l : List (El w)) : List (List (El w)) := grpE l.length l
theorem run_posE {w : World} (x : El w) (l : List (El w)) : 0 < Rs.run x.1.2 (plE (x :: l)) := Rs.run_pos _ _
theorem run_leE {w : World} (x : El w) (l : List (El w)) : Rs.run x.1.2 (plE (x :: l)) <= (x :: l).length := by
 have := Rs.run_le x.1.2 (plE (x :: l))
 simpa [plE] using this
theorem grpE_fuel {w : World} : ∀ (f m : Nat) (l : List (El w)), l.length <= f -> l.length <= m -> grpE f l = grpE m l
 | 0, m, l, h, _ => by
  have : l = [] := List.length_eq_zero_iff.1 (by omega)
  subst this; cases m <;> rfl
 | f + 1, m, [], _, _ => by cases m <;> rfl
 | f + 1, 0, x :: l, _, h => by simp at h
 | f + 1, m + 1, x :: l, h, h' => by
  have hp := run_posE x l
  have h1 : ((x :: l).drop (Rs.run x.1.2 (plE (x :: l)))).length <= l.length := by rw [List.length_drop, List.length_cons]; omega
  simp only [List.length_cons] at h h'
  show _ :: grpE f _ = _ :: grpE m _
  rw [grpE_fuel f m _ (Nat.le_trans h1 (by omega)) (Nat.le_trans h1 (by omega))]
theorem grp_cons {w : World} (x : El w) (l : List (El w)) : grp (x :: l) = (x :: l).take (Rs.run x.1.2 (plE (x :: l))) :: grp ((x :: l).drop (Rs.run x.1.2 (plE (x :: l)))) := by
 have hp := run_posE x l
 show _ :: grpE l.length _ = _ :: grpE _ _
 rw [grpE_fuel l.length _ _ (by rw [List.length_drop, List.length_cons]; omega) (Nat.le_refl _)]
def SetC {w : World} (cs : List Value) (k : List (El w)) (W : World) : Prop :=
 ∃ x xs po no qo od cd, k = x :: xs /\ cs = [.slice po no qo, .int .i64 x.1.2.type, .int .u32 ((Rs.ttl x.1.2 (plE k) : Nat) : Int), .slice od k.length cd] /\ Rd (.slice po no qo) x.1.2.owner w /\ DatsRd (.slice od k.length cd) k W
theorem SetC.keep {w : World} {cs : List Value} {k : List (El w)} {W W' : World} (h : SetC cs k W) (hk : CellsKept W W') : SetC cs k W' := by
 obtain ⟨x, xs, po, no, qo, od, cd, h1, h2, h3, h4⟩ := h
 exact ⟨x, xs, po, no, qo, od, cd, h1, h2, h3, h4.cells_kept hk⟩
def SetsRd {w : World} (v : Value) (ks : List (List (El w))) (W : World) : Prop :=
 ∃ css, GRd 4 v css W /\ css.length = ks.length /\ ∀ i (h : i < css.length) (h' : i < ks.length), SetC css[i] ks[i] W
theorem SetsRd.below {w : World} {v : Value} {ks : List (List (El w))} {W W' : World} (h : SetsRd v ks W) (hb : Below W.heap.size W W') : SetsRd v ks W' := by
 obtain ⟨css, h1, h2, h3⟩ := h
 exact ⟨css, h1.below hb, h2, fun i hi hi' => (h3 i hi hi').keep (CellsKept.below hb)⟩
theorem info_set : (Tryz.prog.info? 116).map (fun i => (i.zero, i.size, i.bytes)) = some (some (.agg #[.slice none 0 0, .int .i64 0, .int .u32 0, .slice none 0 0]), 4, 64) := by kernel_rfl
theorem SetC.ok {w : World} {cs : List Value} {k : List (El w)} {W : World} (h : SetC cs k W) : cs.length = 4 /\ ∀ u ∈ cs, u.oneCell' = true := by
 obtain ⟨x, xs, po, no, qo, od, cd, h1, rfl, h3, h4⟩ := h
 refine ⟨rfl, fun u hu => ?_⟩
 simp only [List.mem_cons, List.not_mem_nil, or_false] at hu
 rcases hu with rfl | rfl | rfl | rfl <;> rfl
def SetT {w : World} (bl : Nat) (cs : List Value) (k : List (El w)) (W : World) : Prop :=
 SetC cs k W /\ ∀ po t tt od n cd, cs = [po, t, tt, .slice od n cd] -> ∀ a, od = some a -> bl < a.block /\ ∃ cur f, W.heap[a.block]? = some (.cells cur 88 f)
def DatKept (bl : Nat) (W W' : World) : Prop := ∀ (k : Nat) (c : Array Value) (f : Nat × Nat), bl < k -> W.heap[k]? = some (Obj.cells c 88 f) -> W'.heap[k]? = some (Obj.cells c 88 f)
theorem DatKept.of_cells {bl : Nat} {W W' : World} (h : CellsKept W W') : DatKept bl W W' := fun k c f _ hk => h k c _ f hk
theorem DatKept.trans {bl : Nat} {A B C : World} (h : DatKept bl A B) (k : DatKept bl B C) : DatKept bl A C := fun i c f hi hk => k i c f hi (h i c f hi hk)
theorem DatKept.grown {bl : Nat} {W W' : World} {row : Option Nat} (h : W.grownBy W' row) (hr : ∀ g, row = some g -> g <= bl \/ ∃ c t f, W.heap[g]? = some (.cells c t f) /\ t ≠ 88) : DatKept bl W W' := fun k c f hk0 hk => by
 refine (h.block k (Array.getElem?_eq_some_iff.1 hk).1 (fun e => ?_)).trans hk
 rcases hr k e.symm with h0 | ⟨c', t, f', h1, h2⟩
 ·omega
 ·rw [h1] at hk; cases hk; exact h2 rfl
theorem DatKept.set {bl b o : Nat} (hb : b <= bl) (W : World) (u : Value) : DatKept bl W (W.setCell ⟨b, o, none⟩ u) := fun k c f hk0 hk => (Below.heap_setCell _ _ _ _ (show k ≠ b by omega)).trans hk
theorem SetT.keep {w : World} {bl : Nat} {cs : List Value} {k : List (El w)} {W W' : World} (h : SetT bl cs k W) (hk : DatKept bl W W') : SetT bl cs k W' := by
 obtain ⟨⟨x, xs, po, no, qo, od, cd, h1, h2, h3, h4⟩, h5⟩ := h
 refine ⟨⟨x, xs, po, no, qo, od, cd, h1, h2, h3, ?_⟩, fun po t tt od n cd e a ha => ?_⟩
 ·obtain ⟨o', cap', e0, d1, d2, d3, d4⟩ := h4
  refine ⟨o', cap', e0, d1, d2, d3, fun j hj => ?_⟩
  obtain ⟨a, ha, hc⟩ := d4 j hj
  cases e0
  obtain ⟨h0, cur, f, hb⟩ := h5 _ _ _ _ _ _ h2 a ha
  refine ⟨a, ha, ?_⟩
  rw [<- hc]
  exact World.cell?_of_block (by rw [add_block, hb]; exact hk _ _ _ h0 hb)
 ·obtain ⟨h0, cur, f, hb⟩ := h5 _ _ _ _ _ _ e a ha
  exact ⟨h0, cur, f, hk _ _ _ h0 hb⟩
theorem Row.typ {R : Nat -> Prop} {e : TypeId} {sz n g : Nat} {v : Value} {xs : List Value} {W : World} (h : Row R e sz v n xs W) (hg : v.ownBlock = some g) : ∃ c f, W.heap[g]? = some (.cells c e f) := by
 obtain ⟨⟨_, ho⟩, _⟩ := h
 rcases ho with ⟨rfl, _⟩ | ⟨g', cap', cur, rfl, _, hh, _⟩
 ·simp [Value.ownBlock] at hg
 ·simp only [Value.ownBlock, Option.some.injEq] at hg; subst hg; exact ⟨_, _, hh⟩
structure SetsM {w : World} (B bl : Nat) (w0 ws : World) (gs : List (List (El w))) (W : World) : Prop where
 ob : ∃ (css : List (List Value)) (v : Value), Box B 164 v W /\ Row (fun g => ws.heap.size <= g) 116 4 v css.length css.flatten W /\ css.length = gs.length /\ ∀ i (h : i < css.length) (h' : i < gs.length), SetT bl css[i] gs[i] W
 below : Below B w0 W
 size : ws.heap.size <= W.heap.size
theorem SetsM.put {w : World} {B bl w0 ws L} {gs : List (List (El w))} (hL : ws.heap.size <= L) (hB : B <= ws.heap.size) {A : World} {r : Loop} (h : SetsM B bl w0 ws gs A) (hr : A.heap[L]? = some (.loop r)) (o : Obj) : SetsM B bl w0 ws gs (A.putObj L o) := by
 obtain ⟨css, v, h1, h2, h3, h4⟩ := h.ob
 exact ⟨⟨css, v, h1.put hr o, h2.put hr o, h3, fun i hi hi' => (h4 i hi hi').keep (.of_cells (CellsKept.put hr o))⟩, below_put h.below (by omega) hr (by have := h.size; omega) o, by simpa using h.size⟩
theorem SetsM.on {w : World} {B bl w0 ws} {gs : List (List (El w))} {A W : World} (h : SetsM B bl w0 ws gs A) (hb : Below A.heap.size A W) (hBA : B <= A.heap.size) : SetsM B bl w0 ws gs W := by
 obtain ⟨css, v, h1, h2, h3, h4⟩ := h.ob
 exact ⟨⟨css, v, h1.below hb, h2.below hb, h3, fun i hi hi' => (h4 i hi hi').keep (.of_cells (CellsKept.below hb))⟩, h.below.trans (hb.mono hBA), by have := hb.size; have := h.size; omega⟩
theorem SetsM.st {w : World} {B bl w0 ws} {gs : List (List (El w))} {A W : World} (h : SetsM B bl w0 ws gs A) (hst : setSt bl A W) (hbl : B < bl) (hws : bl < ws.heap.size) : SetsM B bl w0 ws gs W := by
 obtain ⟨css, v, h1, h2, h3, h4⟩ := h.ob
 refine ⟨⟨css, v, (hst.1.block B h1.lt (fun e => by cases e; omega)).trans h1, ?_, h3, fun i hi hi' => (h4 i hi hi').keep (.grown hst.1 (fun g hg => by cases hg; exact .inl (Nat.le_refl _)))⟩, h.below.grown hst.1 (by have := h1.lt; omega) (fun g hg => by cases hg; omega), by have := hst.1.size; have := h.size; omega⟩
 exact h2.kept fun g c t f hv hg => (hst.1.block g (Array.getElem?_eq_some_iff.1 hg).1 (fun e => by cases e; have := h2.2 _ hv; omega)).trans hg
set_option maxHeartbeats 1000000 in
theorem clipSets2_any {w : World} (o : Option Addr) (n cap : Nat) (ks : List (List (El w))) (W : World) (hv : SetsRd (.slice o n cap) ks W) (hn : ks.length <= 1000000) :
  Calls Tryz.prog 127 #[.slice o n cap] W fun e w' => ∃ n' c', e = .returned (.slice o n' c') /\ SetsRd (.slice o n' c') ks W /\ w' = W := by
 obtain ⟨css, ⟨o, cap, e0, h1, h2, h3, h4, h5⟩, hl, hs⟩ := hv
 cases e0
 have n1 : (css.length : Int) <= 1000000 := by omega
 have h2' := h2
 unfold maxLen at h2
 have HO := Lib.hid (show o = none -> css.length = 0 from fun h => by have := h3 h; omega)
 have H2 := Lib.hid h2'
 have H4 := Lib.hid h4
 have H5 := Lib.hid h5
 have HL := Lib.hid hl
 have HS := Lib.hid hs
 clear h3 h4 h5 hl hs h2'
 go_enter Tryz.func127, Tryz.ntmps127
 go_wp2_with fail
 go_ret
 exact ⟨css.length, css.length, rfl, ⟨css, ⟨o, css.length, rfl, Nat.le_refl _, by have := H2.out; omega, HO.out, H4.out, H5.out⟩, HL.out, HS.out⟩, rfl⟩
end Go.Proofs.YtneghhbclefmoaaGreat
end
section
namespace Go.Proofs.YtneghhbclefmoaaGreat
open Go.RowKit Go.Shelf Go.Sort
set_option maxRecDepth 100000
attribute [local go_sem] Oper.semAt_some
section
variable {w : World}
def SetsR (l : List (El w)) (w0 : World) (e : Ending) (w' : World) : Prop :=
 ∃ (c : List (El w)) (v : Value), plE c = Rc.canon (plE l) /\ c.length <= l.length /\ e = .returned v /\ SetsRd v (grp c) w' /\ Below w0.heap.size w0 w'
def SetsR2 (l : List (El w)) (w0 : World) (e : Ending) (w' : World) : Prop :=
 ∃ (c : List (El w)) (o : Option Addr) (n cap : Nat), plE c = Rc.canon (plE l) /\ c.length <= l.length /\ e = .returned (.slice o n cap) /\ SetsRd (.slice o n cap) (grp c) w' /\ (∀ a, o = some a -> ∃ c f, w'.heap[a.block]? = some (.cells c 116 f)) /\ Below w0.heap.size w0 w'
theorem SetsM.rd {B bl : Nat} {w0 ws : World} {gs : List (List (El w))} {W : World} {v : Value} {css : List (List Value)} (h2 : Row (fun g => ws.heap.size <= g) 116 4 v css.length css.flatten W) (h3 : css.length = gs.length) (h4 : ∀ i (h : i < css.length) (h' : i < gs.length), SetT bl css[i] gs[i] W) (_ : SetsM B bl w0 ws gs W) : SetsRd v gs W :=
 ⟨css, h2.grd (fun x hx => by
  obtain ⟨i, hi, rfl⟩ := List.mem_iff_getElem.1 hx
  exact (h4 i hi (by omega)).1.ok), h3, fun i hi hi' => (h4 i hi hi').1⟩
set_option maxHeartbeats 4000000 in
theorem rsets2_any {w0 : World} (vr : Value) (l : List (El w)) (hb0 : Below w.heap.size w w0) (hv : RecsRd vr (l.map (·.1)) w0) (na : l.length <= 1000) :
  Calls Tryz.prog 86 #[vr] w0 (SetsR2 l w0) := by
 obtain ⟨ov, cv, rfl⟩ : ∃ o cap, vr = .slice o l.length cap := by obtain ⟨_, o, cap, h, _⟩ := hv; exact ⟨o, cap, by rw [h, List.length_map]⟩
 obtain ⟨W1, hW1⟩ : ∃ W1, w0.alloc (.cells #[.slice none 0 0] 164) = W1 := ⟨_, rfl⟩
 have hb1 : Below w0.heap.size w0 W1 := by rw [<- hW1]; exact (Below.refl _ _).alloc (Nat.le_refl _) _
 have bx1 : Box w0.heap.size 164 (.slice none 0 0) W1 := by rw [<- hW1]; exact Box.new w0 _ _
 have s1 : W1.heap.size = w0.heap.size + 1 := by rw [<- hW1]; simp
 have hbw := below5 hb0 hb1
 have hrd : RecsRd (.slice ov l.length cv) (l.map (·.1)) W1 := hv.kept hb1
 have HCN := Lib.hid (canon_any (.slice ov l.length cv) (l.map (El.up hbw)) (by rw [up_fst]; exact hrd) (by rw [List.length_map]; exact na))
 have HPL := Lib.hid (up_pl hbw l)
 have HUP : Hid (∀ y ∈ l.map (El.up hbw), RecRd y.1.1 y.1.2 w) := fun y hy => by
  obtain ⟨z, _, rfl⟩ := List.mem_map.1 hy
  exact z.2.1
 have HBW := Lib.hid hbw
 have HB1 := Lib.hid hb1
 have BX1 := Lib.hid bx1
 have HW1 := Lib.hid hW1
 clear hv hb1 bx1 hrd hW1
 refine (callsIn_wide (n := 0)).1 ?_
 refine callsIn_of_wp_marks Tryz.func86 rfl trivial ?_ rfl
 simp only [Tryz.ntmps86, List.size_toArray, List.length_cons, List.length_nil, Nat.reduceAdd, Nat.reduceSub, Array.replicate_succ, Array.replicate_zero, List.push_toArray, List.append_toArray, List.nil_append, List.cons_append]
 gi_wp2_with (gi_at_call 48; rw [HW1.out]; refine (callsIn_wide.2 HCN.out).mono ?_; rintro e w1 ⟨v1, l1, rfl, r1, p1, n1, b1, fr1, el1⟩)
 obtain ⟨c', d1, d2, d3⟩ := down_list (w := w) l1 (fun x hx => el1 x hx w HUP.out)
 obtain ⟨o', cap', rfl⟩ : ∃ o c, v1 = .slice o l1.length c := by obtain ⟨_, o, c, h, _⟩ := r1; exact ⟨o, c, by rw [h, List.length_map]⟩
 rw [<- d1, <- d3] at r1
 rw [<- d3] at fr1
 have hcp : plE c' = Rc.canon (plE l) := by rw [d2, p1, HPL.out]
 have hcl : c'.length <= l.length := by rw [d3]; have := n1; rw [List.length_map] at this; omega
 have HCP := Lib.hid hcp
 have HCL := Lib.hid hcl
 have hsz1 : w0.heap.size + 1 <= w1.heap.size := by have := b1.size; omega
 have hbw1 : Below w.heap.size w w1 := below5 HBW.out b1
 have bx2 := BX1.out.below b1
 have hoo : ∀ a, o' = some a -> 0 < c'.length -> a.block < w1.heap.size /\ w0.heap.size < a.block := fun a ha hp => by
  have h0 := fr1 a.block (by rw [ha]; rfl)
  obtain ⟨_, o2, c2, e1, _, _, _, e5⟩ := r1
  rw [List.length_map] at e1
  cases e1
  obtain ⟨a2, ha2, hc2⟩ := e5 0 (by rw [encP_map, flat_len encE 7 encE_len]; omega)
  rw [ha] at ha2; cases ha2
  have := cell_lt hc2
  rw [add_block] at this
  exact ⟨this, by omega⟩
 have HR1 := Lib.hid r1
 have HB1' := Lib.hid (below5 HB1.out b1)
 have BX2 := Lib.hid bx2
 rw [<- d3]
 clear r1 p1 n1 fr1 el1 d1 d2 d3 hcp b1 hcl bx2 HCN BX1
 gi_wp2_with (gi_at_call 111; refine (callsIn_wide.2 (setsCall_any _ _ _ _)).mono ?_; rintro e ws ⟨rfl, hws⟩)
 have hbs : Below w1.heap.size w1 ws := by rw [<- hws]; exact (Below.refl _ _).alloc (Nat.le_refl _) _
 have hss : ws.heap.size = w1.heap.size + 1 := by rw [<- hws]; simp
 have hAt : SetsAt (fun b => b < ws.heap.size /\ b ≠ w0.heap.size) w1.heap.size c' ws := by
  refine ⟨⟨o', cap', ?_, HR1.out.kept hbs, fun a ha hp => ?_⟩, below5 hbw1 hbs⟩
  ·rw [<- hws]; exact Box.new w1 _ _
  ·have := hoo a ha hp
   exact ⟨⟨by omega, by omega⟩, by omega⟩
 have hMs : SetsM (w := w) w0.heap.size w1.heap.size w0 ws [] ws := ⟨⟨[], .slice none 0 0, BX2.out.below hbs, Row.nil _ _ _ _, rfl, fun i h => by simp at h⟩, below5 HB1'.out hbs, Nat.le_refl _⟩
 have hwb : w.heap.size <= w1.heap.size := hbw1.size
 have HBW1 := Lib.hid hbw1
 clear hws hbs hoo hbw1
 refine rf_outer rfl (enters_of Tryz.func145 (by kernel_rfl) rfl) (sets1_iter (fun b => b < ws.heap.size /\ b ≠ w0.heap.size) w1.heap.size hwb (by constructor <;> omega) c' (by have := HCL.out; omega))
  (fun A B h => h.others) (fun A B C h k => setKp.trans h k) (fun A ob => setKp.put (by omega) (by omega) A ob)
  (fun _ _ _ _ h => by obtain ⟨_, _, _, _, _, _, _, _, _, _, h, _⟩ := h; subst h; rfl)
  (fun k W => ∃ gs, Hid (grp c' = gs ++ grp k) /\ gs.length + k.length <= c'.length /\ SetsM w0.heap.size w1.heap.size w0 ws gs W) (fun _ _ => False)
  (fun _ _ _ h e => by obtain ⟨gs, h1, h2, h3⟩ := h; exact ⟨gs, h1, h2, h3.st e (by omega) (by omega)⟩) (fun _ _ _ h e => h)
  (fun _ A r ob h hr => by obtain ⟨gs, h1, h2, h3⟩ := h; exact ⟨gs, h1, h2, h3.put (by omega) (by omega) hr ob⟩) (fun _ A r ob h hr => h)
  (fun r => ⟨[], rfl, by simp, ?start⟩) (fun r => ?pre) ?round ?done (fun _ _ h => h.elim)
 case start => exact hMs.on (((Below.refl _ _).alloc (Nat.le_refl _) _).alloc (by simp) _) (by omega)
 case pre => exact hAt.on (((Below.refl _ _).alloc (Nat.le_refl _) _).alloc (by simp) _)
 case round =>
  rintro lp k k' v W ⟨gs, hgs, hgl, hM⟩ ⟨x, xs, n, rfl, hn, hle, rfl, vo, od, cd, rfl, hvo, hdt, hne⟩
  obtain ⟨css, vq, q1, q2, q3, q4⟩ := hM.ob
  obtain ⟨ov', cv', rfl, _, _⟩ := hvo.form
  obtain ⟨tt, htt⟩ : ∃ tt, Rs.ttl x.1.2 (plE ((x :: xs).take n)) = tt := ⟨_, rfl⟩
  rw [htt]
  have HTT := Lib.hid htt
  have HN := Lib.hid hn
  have HVO := Lib.hid hvo
  have HNE := Lib.hid hne
  have HLE := Lib.hid hle
  have HGS := Lib.hid hgs
  have HDT := Lib.hid hdt
  have HQ1 := Lib.hid q1
  have HQ2 := Lib.hid q2
  have HQ3 := Lib.hid q3
  have HQ4 := Lib.hid q4
  have HMB := Lib.hid hM.below
  have hMsz := hM.size
  obtain ⟨oq, nq, cq, rfl⟩ : ∃ o n c, vq = .slice o n c := by obtain ⟨a, c, h⟩ := q2.form; exact ⟨_, _, _, h⟩
  obtain ⟨ln, hln⟩ : ∃ ln, x.1.2.owner.length = ln := ⟨_, rfl⟩
  rw [hln] at HVO ⊢
  obtain ⟨Wa, hWa⟩ : ∃ Wa, W.alloc (.cells #[.slice ov' ln cv', .int .i64 x.1.2.type, .int .u32 (tt : Int), .slice od n cd] 116) = Wa := ⟨_, rfl⟩
  have hblk : Blk W.heap.size #[.slice ov' ln cv', .int .i64 x.1.2.type, .int .u32 (tt : Int), .slice od n cd] 116 Wa := by rw [<- hWa]; exact Blk.new W _ _
  have hba : Below W.heap.size W Wa := by rw [<- hWa]; exact (Below.refl _ _).alloc (Nat.le_refl _) _
  have HBA := Lib.hid hba
  have HBK := Lib.hid hblk
  have HWA := Lib.hid hWa
  clear hvo htt hn hne hle hgs hdt q1 q2 q3 q4 hM hba hblk hWa hMs hAt hln
  gi_wp2
  rw [HWA.out]
  refine ⟨below_keepsOthers HBA.out, ⟨keepH.of_below HBA.out (fun b hb => by omega), fun h => below5 h HBA.out⟩, fun r ob hl hr => ?_⟩
  obtain ⟨Wp, hWp⟩ : ∃ Wp, Wa.putObj (ws.heap.size + 1) (.loop ob) = Wp := ⟨_, rfl⟩
  have HPB : Hid (Box w0.heap.size 164 (.slice oq nq cq) Wp) := by show Box _ _ _ _; rw [<- hWp]; exact (HQ1.out.below HBA.out).put hr (.loop ob)
  have HPK : Hid (Blk W.heap.size #[.slice ov' ln cv', .int .i64 x.1.2.type, .int .u32 (tt : Int), .slice od n cd] 116 Wp) := by show Blk _ _ _ _; rw [<- hWp]; exact HBK.out.put hr (.loop ob)
  have HPR : Hid (Row (fun g => ws.heap.size <= g) 116 4 (.slice oq nq cq) css.length css.flatten Wp) := by show Row _ _ _ _ _ _ _; rw [<- hWp]; exact (HQ2.out.below HBA.out).put hr (.loop ob)
  have HPS : Hid (W.heap.size < Wp.heap.size) := by show _ < _; exact HPK.out.lt
  have HPC : Hid (CellsKept W Wp) := by
   show CellsKept W Wp
   rw [<- hWp]
   exact fun k c t f hk => CellsKept.put hr (.loop ob) k c t f (CellsKept.below HBA.out k c t f hk)
  have HPW : Hid (Below w0.heap.size w0 Wp) := by show Below _ _ _; rw [<- hWp]; exact below_put (HMB.out.trans (HBA.out.mono (by omega))) (by omega) hr (by have := HBA.out.size; omega) (.loop ob)
  rw [hWp]
  have f0 : Wp.cell? ⟨W.heap.size, 0, none⟩ = some _ := HPK.out.cell 0
  have f1 : Wp.cell? ⟨W.heap.size, 1, none⟩ = some _ := HPK.out.cell 1
  have f2 : Wp.cell? ⟨W.heap.size, 2, none⟩ = some _ := HPK.out.cell 2
  have f3 : Wp.cell? ⟨W.heap.size, 3, none⟩ = some _ := HPK.out.cell 3
  have g0 := HPB.out.cell
  clear hWp hr HBK HBA HWA
  obtain ⟨cs, hcs⟩ : ∃ cs : List Value, [Value.slice ov' ln cv', .int .i64 x.1.2.type, .int .u32 (tt : Int), .slice od n cd] = cs := ⟨_, rfl⟩
  obtain ⟨Wq, hWq⟩ : ∃ Wq, Wp.alloc (.cells #[.slice ov' ln cv', .int .i64 x.1.2.type, .int .u32 (tt : Int), .slice od n cd] 116) = Wq := ⟨_, rfl⟩
  have HQC : Hid (CellsKept Wp Wq) := by show CellsKept _ _; rw [<- hWq]; exact CellsKept.alloc Wp _
  have HQR : Hid (Row (fun g => ws.heap.size <= g) 116 4 (.slice oq nq cq) css.length css.flatten Wq) := by show Row _ _ _ _ _ _ _; rw [<- hWq]; exact HPR.out.alloc _
  have HQB : Hid (Below Wp.heap.size Wp Wq) := by show Below _ _ _; rw [<- hWq]; exact (Below.refl _ _).alloc (Nat.le_refl _) _
  have HQG : Hid (GRd 4 (.slice (some ⟨Wp.heap.size, 0, none⟩) 1 1) [cs] Wq) := by
   show GRd _ _ _ _
   rw [<- hWq, <- hcs]
   exact GRd.new [.slice ov' ln cv', .int .i64 x.1.2.type, .int .u32 (tt : Int), .slice od n cd] rfl (by simp [Value.oneCell']) Wp 116
  have HQX : Hid (Box w0.heap.size 164 (.slice oq nq cq) Wq) := by show Box _ _ _ _; exact HPB.out.below HQB.out
  have HQS : Hid (ws.heap.size <= Wq.heap.size) := by have := HQB.out.size; have := HPS.out; show _ <= _; omega
  have HCS := Lib.hid hcs
  have HWQ := Lib.hid hWq
  clear hcs hWq
  have hgn : css.length + 1 <= 100000 := by have h1 := HQ3.out; have h2 := HCL.out; simp only [List.length_cons] at hgl; omega
  gi_wp2_with (gi_at_builtin; rw [HWQ.out]; refine append_g (fun g => ws.heap.size <= g) 116 _ 4 64 info_set rfl (by decide) rfl _ _ _ Tryz.underlying164 rfl _ css.length css (by rfl) HQR.out _ [cs] (by rfl) HQG.out hgn (by omega) HQS.out ?_; intro v10 w10 hrow10 hgr10; obtain ⟨a10, c10, e10⟩ := hrow10.form; subst e10; have hbx10 : Box w0.heap.size 164 (.slice oq nq cq) w10 := (hgr10.block _ HQX.out.lt (fun e => by have := HQR.out.2 _ e.symm; omega)).trans HQX.out; have y0 := hbx10.cell; have y1 := hbx10.frozen; have HX10 := Lib.hid hbx10; have HR10 := Lib.hid hrow10; have HG10 := Lib.hid hgr10; clear hbx10 hrow10 hgr10 f0 f1 f2 f3 g0)
  have hown : ∀ g, (Value.slice oq nq cq).ownBlock = some g -> ws.heap.size <= g := fun g hg => HQR.out.2 g hg
  have hdk : ∀ u, DatKept w1.heap.size W (w10.setCell ⟨w0.heap.size, 0, none⟩ u) := fun u =>
   (((DatKept.of_cells HPC.out).trans (.of_cells HQC.out)).trans (.grown HG10.out (fun g hg => .inr (by
    obtain ⟨c, f, h⟩ := HQR.out.typ hg
    exact ⟨c, _, f, h, by decide⟩)))).trans (.set (by omega) _ _)
  have hpos : 0 < n := by rw [HN.out]; exact run_posE x xs
  have hln : ((x :: xs).take n).length = n := by rw [List.length_take]; have := HLE.out; omega
  refine ⟨(below_keepsOthers HQB.out).trans ((HQR.out.keepsOthers HG10.out).trans (KeepsOthers.setCell _ _ _)), ⟨fun b hb => ?_, fun h => ?_⟩, gs ++ [(x :: xs).take n], ?_, ?_, ⟨css ++ [cs], _, HX10.out.set _, ?_, by simp [HQ3.out], fun i hi hi' => ?_⟩, ?_, ?_⟩
  ·refine (Below.heap_setCell _ _ _ _ hb.2).trans ?_
   have hlb : b < Wp.heap.size := by have := HPS.out; omega
   exact (HG10.out.block b (by have := HQB.out.size; omega) (fun e => by have := hown b e.symm; omega)).trans (HQB.out.block b hlb)
  ·refine Below.setCell (p := ⟨w0.heap.size, 0, none⟩) ?_ hb0.size _
   exact (below5 h HQB.out).grown HG10.out (below5 h HQB.out).size (fun g hg => by have := hown g hg; have := hb0.size; omega)
  ·have h1 := HGS.out.out
   show grp c' = _
   rw [h1, grp_cons, <- HN.out]; simp
  ·have := hgl
   simp only [List.length_append, List.length_cons, List.length_nil, List.length_drop] at this ⊢
   have := HLE.out; simp only [List.length_cons] at this
   omega
  ·have := (HR10.out.setOther (b := w0.heap.size) (o := 0) (fun h => by omega) (.slice a10 (css.length + [cs].length) c10))
   rw [List.length_append]; exact this
  ·by_cases hlt : i < css.length
   ·rw [List.getElem_append_left hlt, List.getElem_append_left (by have := HQ3.out; omega)]
    exact (HQ4.out i hlt (by have := HQ3.out; omega)).keep (hdk _)
   ·have hi2 : i = css.length := by simp at hi; omega
    subst hi2
    rw [List.getElem_append_right (Nat.le_refl _), List.getElem_append_right (by have := HQ3.out; omega)]
    simp only [Nat.sub_self, HQ3.out, List.getElem_cons_zero]
    obtain ⟨m, rfl⟩ : ∃ m, n = m + 1 := ⟨n - 1, by omega⟩
    have hT : SetT w1.heap.size cs ((x :: xs).take (m + 1)) W := by
     refine ⟨⟨x, xs.take m, ov', ln, cv', od, cd, by rw [List.take_succ_cons], ?_, HVO.out, by rw [hln]; exact HDT.out⟩, fun po t tt' od' n' cd' e a ha => ?_⟩
     ·rw [<- HCS.out, hln, HTT.out]
     ·rw [<- HCS.out] at e
      cases e
      exact HNE.out a ha
    exact hT.keep (hdk _)
  ·refine Below.setCell (p := ⟨w0.heap.size, 0, none⟩) ?_ (Nat.le_refl _) _
   exact (below5 HPW.out HQB.out).grown HG10.out (below5 HPW.out HQB.out).size (fun g hg => by have := hown g hg; omega)
  ·have h1 := HG10.out.size; have h2 := HQS.out
   show ws.heap.size <= _
   simpa [World.setCell] using Nat.le_trans h2 h1
 case done =>
  rintro k W rfl ⟨gs, hgs, hgl, hM⟩ hKd
  obtain ⟨css, vq, q1, q2, q3, q4⟩ := id hM.ob
  obtain ⟨oq, cq, hvq⟩ := q2.form
  subst hvq
  have hrd : SetsRd (.slice oq css.length cq) gs W := hM.rd q2 q3 q4
  have hge : gs = grp c' := by
   have h1 := hgs.out
   rw [h1]; simp [grp, grpE]
  rw [hge] at hrd
  have hfr : ∀ a, oq = some a -> ∃ c f, W.heap[a.block]? = some (.cells c 116 f) := fun a ha => by
   subst ha; exact q2.typ rfl
  have HFR := Lib.hid hfr
  have HCLP := Lib.hid (clipSets2_any _ _ _ _ W hrd (by rw [<- hge]; simp only [List.length_nil] at hgl; have := HCL.out; omega))
  have g0 := q1.cell
  have HM := Lib.hid hM
  have HKD := Lib.hid hKd
  clear hM hKd hrd q1 q2 q3 q4 hgs hMs hAt hge hfr
  gi_wp2_with fail
  refine (callsIn_wide.2 HCLP.out).mono ?_
  rintro e W5 ⟨n5, c5, rfl, hr5, rfl⟩
  have HR5 := Lib.hid hr5
  clear hr5
  gi_wp2_with fail
  have hK5 := HKD.out
  rw [hss] at hK5
  have hMb := HM.out.below
  have hMz := HM.out.size
  refine leaveD rfl hK5 (results_tmp rfl _ _ _) ?_
  have hck := CellsKept.putD hK5 (.deferred none)
  refine ⟨c', _, _, _, HCP.out, HCL.out, rfl, ?_, fun a ha => (by obtain ⟨c, f, h⟩ := HFR.out a ha; exact ⟨c, f, hck _ _ _ _ h⟩), below_putD hMb (by omega) (by omega) _⟩
  obtain ⟨css', r1, r2, r3⟩ := HR5.out
  exact ⟨css', r1.cells_kept hck, r2, fun i hi hi' => (r3 i hi hi').keep hck⟩
end
end Go.Proofs.YtneghhbclefmoaaGreat
end
