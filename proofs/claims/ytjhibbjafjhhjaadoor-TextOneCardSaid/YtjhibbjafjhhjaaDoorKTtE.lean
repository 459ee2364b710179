/- Reports in words: text.Lines. -/
import Derived.Test.YtjhibbjafjhhjaaDoorKTtD
import Derived.Test.YtjhibbjafjhhjaaDoorKReg
namespace Go.Proofs.YtjhibbjafjhhjaaDoor
open Go.RowKit Go.Shelf
set_option maxRecDepth 100000
attribute [local go_sem] Oper.semAt_some
theorem clipS_any (o : Option Addr) (cap : Nat) (n : List (List UInt8)) (w : World) (hv : Rd (.slice o n.length cap) n w) (hn : n.length <= 1000) :
  Calls Tryd.prog 23 #[.slice o n.length cap] w fun e w' => e = .returned (.slice o n.length n.length) /\ Rd (.slice o n.length n.length) n w' /\ w' = w := by
 have n1 : (n.length : Int) <= 1000 := by omega
 obtain ⟨o', cap', e, h1, h2, h3, h4⟩ := id hv
 cases e
 unfold maxLen at h2
 have HO := Lib.hid (show o = none -> n.length = 0 from fun h => by have := h3 h; omega)
 have H4 := Lib.hid h4
 clear h3 h4 hv
 go_enter Tryd.func23, Tryd.ntmps23
 go_wp2_with fail
 go_ret
 exact ⟨rfl, ⟨o, n.length, rfl, Nat.le_refl _, by unfold maxLen; omega, HO.out, H4.out⟩, rfl⟩
theorem repRows_any (v0 v1 v2 v3 v4 : Value) (w : World) :
  Calls Tryd.prog 21 #[.agg #[v0, v1, v2, v3, v4]] w fun e w' => e = .returned (.func (.func 45) #[] #[.pointer (some ⟨w.heap.size, 0, none⟩)]) /\ w.alloc (.cells #[v0, v1, v2, v3, v4] 30) = w' := by
 go_enter Tryd.func21, Tryd.ntmps21
 go_wp2
 go_ret
 exact ⟨rfl, rfl⟩
namespace Tt
def jn (r : TRow) : List UInt8 := Lib.join r [32]
def lines (r : Rep) : List (List UInt8) := (rows r).map jn
theorem Short.join {r : TRow} (h : Short r) : (jn r).length <= 100000000 := by
 have h1 := join_len (sep := [32]) h.2.2
 have h2 := Nat.mul_le_mul_right (5000000 + 1) h.1
 simp only [List.length_cons, List.length_nil] at h1
 unfold jn; omega
theorem endRow_len (e : Int) : (endRow e).length <= 1 := by unfold endRow; split <;> simp
theorem Rep.Ok.rows_len {r : Rep} (h : r.Ok) : (rows r).length <= 41 := by
 have := endRow_len r.err
 have := h.el; have := h.fl; have := h.gl; have := h.sl
 simp only [rows, List.length_append, List.length_map]; omega
end Tt
theorem Row.typ {R : Nat -> Prop} {e : TypeId} {sz n g : Nat} {v : Value} {xs : List Value} {W : World} (h : Row R e sz v n xs W) (hg : v.ownBlock = some g) : ∃ c f, W.heap[g]? = some (.cells c e f) := by
 obtain ⟨⟨_, ho⟩, _⟩ := h
 rcases ho with ⟨rfl, _⟩ | ⟨g', cap', cur, rfl, _, hh, _⟩
 ·simp [Value.ownBlock] at hg
 ·simp only [Value.ownBlock, Option.some.injEq] at hg; subst hg; exact ⟨_, _, hh⟩
theorem Row.typed {R : Nat -> Prop} {e : TypeId} {sz n : Nat} {v : Value} {xs : List Value} {W W' : World} (h : Row R e sz v n xs W) (hk : ∀ (b : Nat) c f, W.heap[b]? = some (Obj.cells c e f) -> W'.heap[b]? = some (Obj.cells c e f)) : Row R e sz v n xs W' :=
 h.kept fun g c t f hg hh => by
  obtain ⟨c', f', h'⟩ := h.typ hg
  rw [hh] at h'; cases h'
  exact hk _ _ _ hh
theorem Rd.cellsKept {v : Value} {l : List (List UInt8)} {W W' : World} (h : Rd v l W) (hk : CellsKept W W') : Rd v l W' := by
 obtain ⟨o, cap, h1, h2, h3, h4, h5⟩ := h
 exact ⟨o, cap, h1, h2, h3, h4, fun j hj => by obtain ⟨a, ha, e⟩ := h5 j hj; exact ⟨a, ha, hk.cell e⟩⟩
theorem Blk.put {b cs t W l r} (h : Blk b cs t W) (hr : W.heap[l]? = some (.loop r)) (o : Obj) : Blk b cs t (W.putObj l o) := CellsKept.put hr o _ _ _ _ h
theorem CellsKept.putD {W : World} {l d} (hr : W.heap[l]? = some (.deferred d)) (o : Obj) : CellsKept W (W.putObj l o) :=
 fun k c t f hk => (World.putObj_heap_other (fun e => by rw [e, hr] at hk; cases hk)).trans hk
structure LnM (w : World) (ob L : Nat) (all k : List TRow) (A : World) : Prop where
 row : ∃ (done : List TRow) (v : Value), done ++ k = all /\ Blk ob #[v] 35 A /\ Row (fun g => L < g) 9 1 v done.length ((done.map Tt.jn).map S) A
 below : Below w.heap.size w A
 lt : L < A.heap.size
theorem LnM.st {w : World} {ob L : Nat} {all k : List TRow} {A B : World} (h : LnM w ob L all k A) (hs : rowSt w A B) : LnM w ob L all k B := by
 obtain ⟨⟨d, v, h1, h2, h3⟩, h4, h5⟩ := h
 exact ⟨⟨d, v, h1, hs.2.2.2 _ _ _ _ (.inr rfl) h2, h3.typed fun b c f hh => hs.2.2.2 b c _ f (.inl rfl) hh⟩, hs.2.1 h4, Nat.lt_of_lt_of_le h5 hs.2.2.1⟩
theorem LnM.put {w : World} {ob L : Nat} {all : List TRow} (hL : w.heap.size <= L) (k : List TRow) (A : World) (r : Loop) (o : Obj) (h : LnM w ob L all k A) (hr : A.heap[L]? = some (.loop r)) : LnM w ob L all k (A.putObj L o) := by
 obtain ⟨⟨d, v, h1, h2, h3⟩, h4, h5⟩ := h
 exact ⟨⟨d, v, h1, h2.put hr o, h3.put hr o⟩, below_put h4 hL hr h4.size o, by simpa using h5⟩
theorem LnM.alloc {w : World} {ob L : Nat} {all k : List TRow} {A : World} (h : LnM w ob L all k A) (o : Obj) : LnM w ob L all k (A.alloc o) := by
 obtain ⟨⟨d, v, h1, h2, h3⟩, h4, h5⟩ := h
 exact ⟨⟨d, v, h1, h2.alloc o, h3.alloc o⟩, h4.alloc h4.size o, by simp; omega⟩
theorem LnM.push {w : World} {ob L : Nat} {k : List TRow} {A Wq w10 : World} {r : TRow} {d : List TRow} {v v10 : Value} (hwo : w.heap.size <= ob) (hoL : ob < L) (hbA : Below w.heap.size w A) (hlt : L < A.heap.size) (hba : Below A.heap.size A Wq) (hbx : Blk ob #[v] 35 Wq)
  (hrow : Row (fun g => L < g) 9 1 v d.length ((d.map Tt.jn).map S) Wq) (hrow10 : Row (fun g => L < g) 9 1 v10 (d.length + 1) ((d.map Tt.jn ++ [Tt.jn r]).map S) w10) (hgr10 : Wq.grownBy w10 v.ownBlock) :
  KeepsOthers A (w10.setCell ⟨ob, 0, none⟩ v10) /\ rowKp w L A (w10.setCell ⟨ob, 0, none⟩ v10) /\ LnM w ob L (d ++ r :: k) k (w10.setCell ⟨ob, 0, none⟩ v10) := by
 have hown : ∀ g, v.ownBlock = some g -> L < g := fun g hg => hrow.2 g hg
 have hbs := hba.size
 have hbx10 : Blk ob #[v] 35 w10 := (hgr10.block _ hbx.lt (fun e => by have := hown _ e.symm; omega)).trans hbx
 have hbel : Below w.heap.size w A -> Below w.heap.size w (w10.setCell ⟨ob, 0, none⟩ v10) := fun hw =>
  Below.setCell (p := ⟨ob, 0, none⟩) ((below5 hw hba).grown hgr10 (below5 hw hba).size (fun g hg => by have := hown g hg; omega)) hwo _
 have hs10 : A.heap.size <= (w10.setCell ⟨ob, 0, none⟩ v10).heap.size := by
  have := hgr10.size
  simp [World.setCell]; omega
 refine ⟨(below_keepsOthers hba).trans ((hrow.keepsOthers hgr10).trans (KeepsOthers.setCell _ _ _)), ⟨hbel, hs10, fun b c t f h0 h1 h2 hh => ?_⟩, ⟨d ++ [r], v10, by simp, hbx10.set1, ?_⟩, hbel hbA, by omega⟩
 ·have hl := (Array.getElem?_eq_some_iff.1 hh).1
  have hne : b ≠ ob := fun e => by
   subst e
   have h3 := hbx
   unfold Blk at h3
   rw [hba.block b hl, hh] at h3
   cases h3; exact h2 rfl
  refine (Below.heap_setCell _ _ _ _ hne).trans ?_
  refine (hgr10.block b (by omega) (fun e => ?_)).trans ((hba.block b hl).trans hh)
  obtain ⟨c', f', h3⟩ := hrow.typ e.symm
  rw [hba.block b hl, hh] at h3
  cases h3; exact h1 rfl
 ·have h4 := Row.setOther (b := ob) (o := 0) hrow10 (by omega) v10
  rw [List.length_append, List.map_append]
  exact h4
def LinesOf (r : Tt.Rep) (w : World) (e : Ending) (w' : World) : Prop := ∃ o, e = .returned (.slice o (Tt.lines r).length (Tt.lines r).length) /\ Rd (.slice o (Tt.lines r).length (Tt.lines r).length) (Tt.lines r) w' /\ (∀ a, o = some a -> ∃ c f, w'.heap[a.block]? = some (.cells c 9 f)) /\ Below w.heap.size w w'
set_option maxHeartbeats 8000000 in
theorem lines_any (ve vf vg vs : Value) (r : Tt.Rep) (w : World) (hR : RepRd ve vf vg vs r w) (hok : r.Ok) (ht : Tab w) :
  Calls Tryd.prog 8 #[.agg #[ve, vf, vg, vs, .int .i64 r.err]] w (LinesOf r w) := by
 have HIT : Hid (∀ L br, br < L -> w.heap.size <= L -> Iter2 Tryd.prog 45 #[.pointer (some ⟨br, 0, none⟩)] (fun A => Blk br #[ve, vf, vg, vs, .int .i64 r.err] 30 A /\ Below w.heap.size w A /\ L < A.heap.size) (rowSt w) (rowKp w L) rowY (Tt.rows r) (fun k => k = [])) :=
  fun L br h1 h2 => rows1_iter w L br ve vf vg vs r h1 h2 hR hok ht
 have HRL : Hid ((Tt.rows r).length <= 41) := hok.rows_len
 obtain ⟨oe, ce, rfl⟩ := hR.e.form
 obtain ⟨of, cf, rfl⟩ := hR.f.form
 obtain ⟨og, cg, rfl⟩ := hR.g.form
 obtain ⟨os, cs, rfl⟩ := hR.s.form
 obtain ⟨ne, hne⟩ : ∃ n, r.es.length = n := ⟨_, rfl⟩
 obtain ⟨nf, hnf⟩ : ∃ n, r.fs.length = n := ⟨_, rfl⟩
 obtain ⟨ng, hng⟩ : ∃ n, r.gs.length = n := ⟨_, rfl⟩
 obtain ⟨ns, hns⟩ : ∃ n, r.ss.length = n := ⟨_, rfl⟩
 obtain ⟨ev, hev⟩ : ∃ z, r.err = z := ⟨_, rfl⟩
 rw [hne, hnf, hng, hns, hev] at HIT ⊢
 clear hR hok ht hne hnf hng hns hev
 refine (callsIn_wide (n := 0)).1 ?_
 refine callsIn_of_wp_marks Tryd.func8 rfl trivial ?_ rfl
 simp only [Tryd.ntmps8, List.size_toArray, List.length_cons, List.length_nil, Nat.reduceAdd, Nat.reduceSub, Array.replicate_succ, Array.replicate_zero, List.push_toArray, List.append_toArray, List.nil_append, List.cons_append]
 gi_wp2_with (gi_at_call 21; refine (callsIn_wide.2 (repRows_any _ _ _ _ _ _)).mono ?_; rintro e w' ⟨rfl, rfl⟩)
 obtain ⟨W0, hW0, hM0, hrb, hb0, hs0⟩ : ∃ W0, ((w.alloc (.cells #[.slice oe ne ce, .slice of nf cf, .slice og ng cg, .slice os ns cs, .int .i64 ev] 30)).alloc (.cells #[.slice none 0 0] 35)).alloc (.cells #[.slice oe ne ce, .slice of nf cf, .slice og ng cg, .slice os ns cs, .int .i64 ev] 30) = W0 /\
   Blk (w.heap.size + 1) #[.slice none 0 0] 35 W0 /\ Blk (w.heap.size + 2) #[.slice oe ne ce, .slice of nf cf, .slice og ng cg, .slice os ns cs, .int .i64 ev] 30 W0 /\ Below w.heap.size w W0 /\ W0.heap.size = w.heap.size + 3 := by
  refine ⟨_, rfl, Blk.alloc ?_ _, ?_, (((Below.refl _ _).alloc (by simp) _).alloc (by simp) _).alloc (by simp; omega) _, by simp⟩
  ·have h := Blk.new (w.alloc (.cells #[.slice oe ne ce, .slice of nf cf, .slice og ng cg, .slice os ns cs, .int .i64 ev] 30)) #[.slice none 0 0] 35
   rwa [World.size_alloc] at h
  ·have h := Blk.new ((w.alloc (.cells #[.slice oe ne ce, .slice of nf cf, .slice og ng cg, .slice os ns cs, .int .i64 ev] 30)).alloc (.cells #[.slice none 0 0] 35)) #[.slice oe ne ce, .slice of nf cf, .slice og ng cg, .slice os ns cs, .int .i64 ev] 30
   rwa [World.size_alloc, World.size_alloc] at h
 rw [hW0]
 clear hW0
 obtain ⟨ob, hob⟩ : ∃ b, w.heap.size + 1 = b := ⟨_, rfl⟩
 rw [hob] at hM0 ⊢
 obtain ⟨br, hbr⟩ : ∃ b, ob + 1 = b := ⟨_, rfl⟩
 rw [hbr]
 rw [show w.heap.size + 2 = br by omega] at hrb
 have HS0 := Lib.hid hs0
 refine rf_outer2 rfl (enters_of Tryd.func45 (by kernel_rfl) rfl) (HIT.out (W0.heap.size + 1) br (by omega) (by omega))
  (fun A B h => h.1) (fun _ _ _ h k => h.trans k) (fun A o => rowKp.put (by omega) A o)
  (fun _ _ _ _ ⟨_, _, _, h, _⟩ => by subst h; rfl)
  (LnM w ob (W0.heap.size + 1) (Tt.rows r)) (fun _ _ _ h k => h.st k)
  (LnM.put (by omega))
  (fun rr => ?start) (fun rr => ?pre) ?round ?done
 case start => exact ⟨⟨[], .slice none 0 0, rfl, (hM0.alloc _).alloc _, Row.nil _ _ _ _⟩, (hb0.alloc hb0.size _).alloc (by simp; omega) _, by simp⟩
 case pre => exact ⟨(hrb.alloc _).alloc _, (hb0.alloc hb0.size _).alloc (by simp; omega) _, by simp⟩
 case round =>
  rintro l k k' v W hI ⟨row, b, rfl, rfl, hrd, hbl, hsh⟩
  have HRD := Lib.hid hrd
  have HSH := Lib.hid hsh
  have HI := Lib.hid hI
  have HBL := Lib.hid hbl
  obtain ⟨m, hm⟩ : ∃ m, row.length = m := ⟨_, rfl⟩
  rw [hm] at HRD ⊢
  have HM := Lib.hid hm
  have HWO : Hid (w.heap.size <= ob /\ ob < W0.heap.size + 1) := ⟨by omega, by omega⟩
  obtain ⟨L, hL⟩ : ∃ L, W0.heap.size + 1 = L := ⟨_, rfl⟩
  rw [hL] at HI HWO ⊢
  have HWL : Hid (w.heap.size <= L) := by show _ <= _; omega
  clear hrd hsh hI hbl hm hM0 hrb hb0 hs0 hob hbr HS0 HIT
  gi_wp2
  refine ⟨KeepsOthers.refl _, rowKp.of_below (Below.refl _ _), fun rr o hl hr => ?_⟩
  obtain ⟨A, hA⟩ : ∃ A, W.putObj L (.loop o) = A := ⟨_, rfl⟩
  have HI2 : Hid (LnM w ob L (Tt.rows r) (row :: k') A) := by show LnM _ _ _ _ _ _; rw [<- hA]; exact HI.out.put HWL.out _ _ _ _ hr
  have HRD2 : Hid (Rd (.slice (some ⟨b, 0, none⟩) m m) row A) := by show Rd _ _ _; rw [<- hA]; exact HRD.out.cellsKept (CellsKept.put hr _)
  have HBL2 : Hid (b < A.heap.size) := by show _ < _; rw [<- hA]; simpa using HBL.out
  rw [hA]
  clear hA hr HI HRD HBL
  clear hl
  obtain ⟨⟨d, v, hall, hob, hrow⟩, hbA, hlA⟩ := HI2.out
  obtain ⟨av, cv, rfl⟩ := hrow.form
  obtain ⟨y, hy⟩ : ∃ y, Tt.jn row = y := ⟨_, rfl⟩
  have HJ : Hid (∀ W', Below A.heap.size A W' -> Calls Tryd.prog 22 #[.slice (some ⟨b, 0, none⟩) m m, S [32]] W' (Gives (S y) W')) := fun W' hW => by
   have h := sjoin_any b 0 m row [32] W' (by rw [HM.out]; exact HRD2.out.below hW) (Nat.lt_of_lt_of_le HBL2.out hW.size) (by have := HSH.out.1; omega) (by have := HSH.out.join; unfold Tt.jn at this; omega)
   rw [HM.out] at h
   unfold Tt.jn at hy
   rw [hy] at h; exact h
  have c0 : A.cell? ⟨ob, 0, none⟩ = some (.slice av d.length cv) := hob.cell 0
  have HDL : Hid (d.length <= 100) := by
   have h1 := HRL.out; rw [<- hall, List.length_append] at h1; show _ <= _; omega
  have HY := Lib.hid hy
  have HALL := Lib.hid hall
  have HOB := Lib.hid hob
  have HROW := Lib.hid hrow
  have HBA := Lib.hid hbA
  have HLA := Lib.hid hlA
  obtain ⟨dl, hdl⟩ : ∃ n, d.length = n := ⟨_, rfl⟩
  rw [hdl] at c0 HOB HROW HDL
  have HD := Lib.hid hdl
  clear hall hob hrow hbA hlA hy hdl HI2 HRD2
  gi_wp2_with fail
  refine drawnH [0, 2, 3] (Cs [(⟨ob, 0, none⟩, .slice av dl cv)]) 6 rfl (by kernel_rfl) ?_
  intro w' hw'
  have hb : Below A.heap.size A w' := by subst hw'; exact (Below.refl _ _).drew
  have hS : Cs [(⟨ob, 0, none⟩, .slice av dl cv)] w' := by subst hw'; exact ⟨c0, trivial⟩
  have HB := Lib.hid hb
  have HCS : Hid (∀ W', Below A.heap.size A W' -> Cs [(⟨ob, 0, none⟩, .slice av dl cv)] W') := fun W' hW => ⟨(HOB.out.below hW).cell 0, trivial⟩
  clear hw' hb c0
  refine tP 1 ?qv1 (fun w1 _ => ?qy1) ?_
  case qy1 => (go_simp; try first | rfl | (rw [if_pos (by omega)]) | (rw [if_neg (by omega)]) | (rw [if_neg (by simp; omega)]) | (split <;> first | (exfalso; omega) | rfl))
  simp only [Act.put, List.setIfInBounds_toArray, List.set_cons_succ, List.set_cons_zero]
  refine tH 0 ?qv0 hS (fun w1 ⟨x0, _⟩ => ?qy0) ?_
  case qy0 => (go_simp; try first | rfl | (rw [if_pos (by omega)]) | (rw [if_neg (by omega)]) | (rw [if_neg (by simp; omega)]) | (split <;> first | (exfalso; omega) | rfl))
  simp only [Act.put, List.setIfInBounds_toArray, List.set_cons_succ, List.set_cons_zero]
  clear hS
  refine oneH 2 (by rfl) (by kernel_rfl) (fun K hK => ?_)
  gi_wp2_with (gi_at_call 22; refine (callsIn_wide.2 (HJ.out w' HB.out)).mono ?_; rintro e w2 ⟨rfl, b2⟩)
  have HB2 := Lib.hid (below5 HB.out b2)
  refine hK _ _ (fun _ => HCS.out _ HB2.out) ?_
  clear hK K b2 HJ
  refine oneH 3 (by rfl) (by kernel_rfl) (fun K hK => ?_)
  gi_wp2_with fail
  have hb3 : Below A.heap.size A (w2.alloc (.cells #[S y] 9)) := HB2.out.alloc HB2.out.size _
  have HB3 := Lib.hid hb3
  refine hK _ _ (fun _ => HCS.out _ hb3) ?_
  clear hK K hb3
  have HR3 := Lib.hid ((HROW.out.below HB2.out).alloc (.cells #[S y] 9))
  have HSZ : Hid (L < (w2.alloc (.cells #[S y] 9)).heap.size) := by have := HB2.out.size; have := HLA.out; show _ < _; simp; omega
  refine oneH 4 (by rfl) (by kernel_rfl) (fun K hK => ?_)
  gi_wp2_with (gi_at_builtin; refine append_rd (fun g => L < g) rfl _ _ _ Tryd.underlying35 rfl _ dl _ (by rfl) HR3.out _ [y] (by rfl) (rd_row1 _ _) (by have := HDL.out; simp; omega) HSZ.out ?_; intro v10 w10 hrow10 hgr10)
  obtain ⟨a10, c10, rfl⟩ := hrow10.form
  have HR10 := Lib.hid hrow10
  have HG10 := Lib.hid hgr10
  have hob10 : Blk ob #[.slice av dl cv] 35 w10 := (hgr10.block _ (HOB.out.below HB3.out).lt (fun e => by have := HR3.out.2 _ e.symm; have := HWO.out.2; omega)).trans (HOB.out.below HB3.out)
  refine hK _ _ (fun h => absurd h (by decide)) ?_
  clear hK K hrow10 hgr10
  have c4 : w10.cell? ⟨ob, 0, none⟩ = some (.slice av dl cv) := hob10.cell 0
  have z4 := hob10.frozen 0
  clear hob10
  refine oneH 5 (by rfl) (by kernel_rfl) (fun K hK => ?_)
  gi_wp2_with fail
  refine hK _ _ (fun h => absurd h (by decide)) ?_
  clear hK K
  refine doneH (by kernel_rfl) ?_
  have hp := LnM.push (k := k') (r := row) HWO.out.1 HWO.out.2 HBA.out HLA.out HB3.out (HOB.out.below HB3.out) (d := d) (v := .slice av dl cv) (by rw [HD.out]; exact HR3.out) (by rw [HD.out, HY.out]; exact HR10.out) HG10.out
  rw [HALL.out] at hp
  clear c4 z4
  gi_wp2_with fail
  exact hp
 case done =>
  rintro k W rfl ⟨⟨d, v, hall, hob', hrow⟩, hbW, hlW⟩ hKd
  rw [List.append_nil] at hall
  subst hall
  obtain ⟨av, cv, rfl⟩ := hrow.form
  obtain ⟨dl, hdl⟩ : ∃ n, (Tt.rows r).length = n := ⟨_, rfl⟩
  have hdc : dl <= 41 := by rw [<- hdl]; exact HRL.out
  rw [hdl] at hob' hrow
  have hrd : Rd (.slice av dl cv) (Tt.lines r) W := by
   refine Rd.of_row (R := fun g => W0.heap.size + 1 < g) (e := 9) ?_
   unfold Tt.lines
   rw [List.length_map, hdl]; exact hrow
  have HLL : Hid ((Tt.lines r).length = dl) := by show _ = _; unfold Tt.lines; rw [List.length_map, hdl]
  have HTY : Hid (∀ a, av = some a -> ∃ c f, W.heap[a.block]? = some (.cells c 9 f)) := fun a ha => by
   subst ha
   refine hrow.typ ?_
   obtain ⟨⟨_, ho⟩, _⟩ := hrow
   rcases ho with ⟨h, _⟩ | ⟨g, cap, cur, h, _⟩
   ·cases h
   ·cases h; rfl
  have HRD := Lib.hid hrd
  have HBW := Lib.hid hbW
  have c0 : W.cell? ⟨ob, 0, none⟩ = some (.slice av dl cv) := hob'.cell 0
  obtain ⟨D0, hD0⟩ : ∃ D, W0.heap.size = D := ⟨_, rfl⟩
  have HD0 : Hid (w.heap.size <= D0) := by show _ <= _; omega
  rw [hD0] at hKd ⊢
  have HKD := Lib.hid hKd
  clear hrd hbW hob' hrow hlW hdl hM0 hrb hb0 hs0 hob hbr HS0 HIT hD0 hKd
  gi_wp2_with fail
  have hcl := clipS_any av cv (Tt.lines r) W (by rw [HLL.out]; exact HRD.out) (by rw [HLL.out]; omega)
  rw [HLL.out] at hcl
  refine (callsIn_wide.2 hcl).mono ?_
  rintro e w2 ⟨rfl, hv2, rfl⟩
  have HV2 := Lib.hid hv2
  clear hv2 hcl
  gi_wp2_with fail
  refine ⟨by simp, .inl ⟨_, _, rfl, run_takeDeferred HKD.out, ?_⟩⟩
  refine ⟨_, results_tmp rfl _ _ _, ?_⟩
  show LinesOf r w (.returned (.slice av dl dl)) _
  refine ⟨av, by rw [HLL.out], by rw [HLL.out]; exact HV2.out.cellsKept (CellsKept.putD HKD.out _), fun a ha => ?_, below_putD HBW.out HD0.out HBW.out.size _⟩
  obtain ⟨c, f, h⟩ := HTY.out a ha
  exact ⟨c, f, CellsKept.putD HKD.out _ _ _ _ _ h⟩
end Go.Proofs.YtjhibbjafjhhjaaDoor
