/- Reports: going over their rows. -/
import Derived.Test.YtjhibbjafjhhjaaDoorKTtD0
import Derived.Test.YtjhibbjafjhhjaaDoorKReg
namespace Go.Proofs.YtjhibbjafjhhjaaDoor
open Go.RowKit Go.Shelf
set_option maxRecDepth 100000
attribute [local go_sem] Oper.semAt_some
def rowSt (w A B : World) : Prop := KeepsOthers A B /\ (Below w.heap.size w A -> Below w.heap.size w B) /\ A.heap.size <= B.heap.size /\ ∀ (b : Nat) c t f, (t = 9 \/ t = 35) -> A.heap[b]? = some (Obj.cells c t f) -> B.heap[b]? = some (Obj.cells c t f)
theorem rowSt.of_below {w A B : World} (h : Below A.heap.size A B) : rowSt w A B := ⟨below_keepsOthers h, fun x => below5 x h, h.size, fun b _ _ _ _ hb => (h.block b (Array.getElem?_eq_some_iff.1 hb).1).trans hb⟩
theorem rowSt.set {w A : World} {b : Nat} {v u : Value} (h : Blk b #[v] 4 A) (hw : w.heap.size <= b) : rowSt w A (A.setCell ⟨b, 0, none⟩ u) :=
 ⟨KeepsOthers.setCell _ _ _, fun x => x.setCell (p := ⟨b, 0, none⟩) hw _, by simp [World.setCell], fun c cs t f ht hc => (Below.heap_setCell _ _ _ _ (fun e => by
  have e : c = b := e
  subst e
  unfold Blk at h
  rw [h] at hc
  simp only [Option.some.injEq, Obj.cells.injEq] at hc
  rcases ht with ht | ht <;> (rw [ht] at hc; exact absurd hc.2.1 (by decide)))).trans hc⟩
def rowKp (w : World) (L : Nat) (A B : World) : Prop := (Below w.heap.size w A -> Below w.heap.size w B) /\ A.heap.size <= B.heap.size /\ ∀ (b : Nat) c t f, b ≠ L -> t ≠ 9 -> t ≠ 35 -> A.heap[b]? = some (Obj.cells c t f) -> B.heap[b]? = some (Obj.cells c t f)
theorem rowKp.trans {w : World} {L : Nat} {A B C : World} (h : rowKp w L A B) (k : rowKp w L B C) : rowKp w L A C := ⟨fun x => k.1 (h.1 x), Nat.le_trans h.2.1 k.2.1, fun b c t f h0 h1 h2 hb => k.2.2 b c t f h0 h1 h2 (h.2.2 b c t f h0 h1 h2 hb)⟩
theorem rowKp.of_below {w : World} {L : Nat} {A B : World} (h : Below A.heap.size A B) : rowKp w L A B := ⟨fun x => below5 x h, h.size, fun b _ _ _ _ _ _ hb => (h.block b (Array.getElem?_eq_some_iff.1 hb).1).trans hb⟩
theorem rowKp.put {w : World} {L : Nat} (hw : w.heap.size <= L) (A : World) (o : Obj) : rowKp w L A (A.putObj L o) :=
 ⟨fun h => h.grown (grownBy_putObj' A L o) h.size (fun k e => by cases e; exact hw), by simp, fun b _ _ _ h0 _ _ hb => (World.putObj_heap_other h0).trans hb⟩
theorem rowKp.blk {w : World} {L b : Nat} {cs : Array Value} {t : TypeId} {A B : World} (h : rowKp w L A B) (hb : Blk b cs t A) (h0 : b ≠ L) (h1 : t ≠ 9) (h2 : t ≠ 35) : Blk b cs t B := h.2.2 _ _ _ _ h0 h1 h2 hb
theorem Blk.set1 {b : Nat} {v u : Value} {t : TypeId} {W : World} (h : Blk b #[v] t W) : Blk b #[u] t (W.setCell ⟨b, 0, none⟩ u) := by
 unfold Blk at *; simp [World.setCell, Array.getElem?_modify, h]
theorem Blk.setOther {b : Nat} {cs : Array Value} {t : TypeId} {W : World} (h : Blk b cs t W) {c o : Nat} (hne : b ≠ c) (u : Value) : Blk b cs t (W.setCell ⟨c, o, none⟩ u) := (Below.heap_setCell _ _ _ _ hne).trans h
abbrev TRow := List (List UInt8)
def rowY (k : List TRow) (A : World) (v : Array Value) (k' : List TRow) : Prop :=
 ∃ r b, k = r :: k' /\ v = #[.slice (some ⟨b, 0, none⟩) r.length r.length] /\ Rd (.slice (some ⟨b, 0, none⟩) r.length r.length) r A /\ b < A.heap.size /\ Tt.Short r
structure RpM (w : World) (br bo bf l : Nat) (rv : Array Value) (A : World) : Prop where
 rb : Blk br rv 30 A
 ob : Blk bo #[.bool true] 4 A
 yb : Blk bf #[.func (.yield l) #[] #[]] 95 A
 below : Below w.heap.size w A
theorem RpM.on {w : World} {br bo bf l : Nat} {rv : Array Value} {A B : World} (h : RpM w br bo bf l rv A) (hb : Below A.heap.size A B) : RpM w br bo bf l rv B := ⟨h.rb.below hb, h.ob.below hb, h.yb.below hb, below5 h.below hb⟩
theorem RpM.kp {w : World} {L br bo bf l : Nat} {rv : Array Value} {A B : World} (h : RpM w br bo bf l rv A) (hk : rowKp w L A B) (h1 : br ≠ L) (h2 : bo ≠ L) (h3 : bf ≠ L) : RpM w br bo bf l rv B :=
 ⟨hk.blk h.rb h1 (by decide) (by decide), hk.blk h.ob h2 (by decide) (by decide), hk.blk h.yb h3 (by decide) (by decide), hk.1 h.below⟩
theorem RpM.set {w : World} {br bo bf l : Nat} {rv : Array Value} {A : World} (h : RpM w br bo bf l rv A) (h1 : br ≠ bo) (h2 : bf ≠ bo) (hw : w.heap.size <= bo) : RpM w br bo bf l rv (A.setCell ⟨bo, 0, none⟩ (.bool true)) :=
 ⟨h.rb.setOther h1 _, h.ob.set1, h.yb.setOther h2 _, h.below.setCell (p := ⟨bo, 0, none⟩) hw _⟩
set_option maxHeartbeats 1000000 in
theorem row1_any (l bo bf : Nat) (v : Value) (W : World) (Z : World -> Prop) (hbo : Blk bo #[.bool true] 4 W) (hbf : Blk bf #[.func (.yield l) #[] #[]] 95 W)
  (hy : YieldAt Fence.wide 0 Tryd.prog l #[v] W fun e B => e = .returned (.bool true) /\ Z B) (hZ : ∀ B, Z B -> Blk bo #[.bool true] 4 B) :
  CallsIn Fence.wide 0 Tryd.prog 46 #[v, .pointer (some ⟨bo, 0, none⟩), .pointer (some ⟨bf, 0, none⟩)] W fun e B => (∃ u, e = .returned u) /\ ∃ A, Z A /\ A.setCell ⟨bo, 0, none⟩ (.bool true) = B := by
 refine callsIn_of_wp Tryd.func46 rfl trivial ?_ rfl
 simp only [Tryd.ntmps46, List.size_toArray, List.length_cons, List.length_nil, Nat.reduceAdd, Nat.reduceSub, Array.replicate_succ, Array.replicate_zero, List.push_toArray, List.append_toArray, List.nil_append, List.cons_append]
 have c0 : W.cell? ⟨bo, 0, none⟩ = some (.bool true) := hbo.cell 0
 have c1 : W.cell? ⟨bf, 0, none⟩ = some (.func (.yield l) #[] #[]) := hbf.cell 0
 have HZ := Lib.hid hZ
 clear hbo hbf hZ
 obtain ⟨fn, tmps, assign, body, hyr, hR⟩ := hy
 gi_wp2_with fail
 refine hR.mono ?_
 clear hR hyr c0 c1
 rintro ew A ⟨rfl, hz⟩
 have hb := HZ.out A hz
 have c2 : A.cell? ⟨bo, 0, none⟩ = some (.bool true) := hb.cell 0
 have z2 := hb.frozen 0
 have HZA := Lib.hid hz
 clear hb hz
 gi_wp2_with fail
 go_end0
 exact ⟨⟨_, rfl⟩, A, HZA.out, rfl⟩
theorem rowCall {w : World} {l L br bo bf : Nat} {rv : Array Value} {J : List TRow -> World -> Prop} (hJs : ∀ k A B, J k A -> rowSt w A B -> J k B)
  (hY : ∀ k k' v A, J k A -> rowY k A v k' -> YieldAt Fence.wide 0 Tryd.prog l v A fun e B => e = .returned (.bool true) /\ J k' B /\ rowKp w L A B)
  (h1 : br ≠ L) (h2 : bo ≠ L) (h3 : bf ≠ L) (h4 : br ≠ bo) (h5 : bf ≠ bo) (h6 : w.heap.size <= bo) {A : World} (hM : RpM w br bo bf l rv A) {r : TRow} {k : List TRow} (hJ : J (r :: k) A) {b : Nat}
  (hrd : Rd (.slice (some ⟨b, 0, none⟩) r.length r.length) r A) (hb : b < A.heap.size) (hs : Tt.Short r) {n : Nat} (hn : r.length = n) :
  CallsIn Fence.wide 0 Tryd.prog 46 #[.slice (some ⟨b, 0, none⟩) n n, .pointer (some ⟨bo, 0, none⟩), .pointer (some ⟨bf, 0, none⟩)] A fun e B => (∃ u, e = .returned u) /\ RpM w br bo bf l rv B /\ J k B /\ rowKp w L A B := by
 subst hn
 have := row1_any l bo bf _ A (fun B => J k B /\ rowKp w L A B) hM.ob hM.yb (hY _ _ _ A hJ ⟨r, b, rfl, rfl, hrd, hb, hs⟩) (fun B hB => (hM.kp hB.2 h1 h2 h3).ob)
 refine this.mono ?_
 rintro e B ⟨hu, C, ⟨hj, hk⟩, rfl⟩
 have hMC := hM.kp hk h1 h2 h3
 refine ⟨hu, hMC.set h4 h5 h6, hJs _ _ _ hj (rowSt.set hMC.ob h6), hk.trans ⟨fun x => x.setCell (p := ⟨bo, 0, none⟩) h6 _, by simp [World.setCell], fun c cs t f h0 ht1 ht2 hc => ?_⟩⟩
 by_cases hcb : c = bo
 ·subst hcb
  have e1 : C.heap[c]? = some (.cells #[.bool true] 4) := hMC.ob
  have e2 : (C.setCell ⟨c, 0, none⟩ (.bool true)).heap[c]? = some (.cells #[.bool true] 4) := hMC.ob.set1
  rw [e2, <- e1, hc]
 ·exact (Below.heap_setCell _ _ _ _ hcb).trans hc
theorem loop_next {α : Type} (l : List α) (f : α -> TRow) (R : List TRow) (k : Nat) (h : k < l.length) : (l.drop k).map f ++ R = f l[k] :: ((l.drop (k + 1)).map f ++ R) := by
 rw [List.drop_eq_getElem_cons h]; rfl
theorem loop_end {α : Type} (l : List α) (f : α -> TRow) (R : List TRow) (k : Nat) (h : l.length <= k) : (l.drop k).map f ++ R = R := by
 rw [List.drop_eq_nil_of_le h]; rfl
set_option maxHeartbeats 16000000 in
theorem rows1_iter (w : World) (L br : Nat) (ve vf vg vs : Value) (r : Tt.Rep) (hL : br < L) (_ : w.heap.size <= L) (hR : RepRd ve vf vg vs r w) (hok : r.Ok) (ht : Tab w) :
  Iter2 Tryd.prog 45 #[.pointer (some ⟨br, 0, none⟩)] (fun A => Blk br #[ve, vf, vg, vs, .int .i64 r.err] 30 A /\ Below w.heap.size w A /\ L < A.heap.size) (rowSt w) (rowKp w L) rowY (Tt.rows r) (fun k => k = []) := by
 intro l J W hpre hJs hY h0
 obtain ⟨hrb, hbw, hLW⟩ := hpre
 refine callsIn_of_wp Tryd.func45 rfl trivial ?_ rfl
 simp only [Tryd.ntmps45, List.size_toArray, List.length_cons, List.length_nil, Nat.reduceAdd, Nat.reduceSub, Array.replicate_succ, Array.replicate_zero, List.push_toArray, List.append_toArray, List.nil_append, List.cons_append]
 obtain ⟨oe, ce, rfl⟩ := hR.e.form
 obtain ⟨of, cf, rfl⟩ := hR.f.form
 obtain ⟨og, cg, rfl⟩ := hR.g.form
 obtain ⟨os, cs, rfl⟩ := hR.s.form
 have HR := Lib.hid hR
 have HOK := Lib.hid hok
 have HT := Lib.hid ht
 have HJS := Lib.hid hJs
 have HY := Lib.hid hY
 obtain ⟨ne, hne⟩ : ∃ n, r.es.length = n := ⟨_, rfl⟩
 obtain ⟨nf, hnf⟩ : ∃ n, r.fs.length = n := ⟨_, rfl⟩
 obtain ⟨ng, hng⟩ : ∃ n, r.gs.length = n := ⟨_, rfl⟩
 obtain ⟨ns, hns⟩ : ∃ n, r.ss.length = n := ⟨_, rfl⟩
 have ne1 : (ne : Int) <= 10 := by have := hok.el; omega
 have nf1 : (nf : Int) <= 10 := by have := hok.fl; omega
 have ng1 : (ng : Int) <= 10 := by have := hok.gl; omega
 have ns1 : (ns : Int) <= 10 := by have := hok.sl; omega
 obtain ⟨ev, hev⟩ : ∃ z, r.err = z := ⟨_, rfl⟩
 rw [hne, hnf, hng, hns] at HR
 rw [hne, hnf, hng, hns, hev] at hrb
 have HNE := Lib.hid hne
 have HNF := Lib.hid hnf
 have HNG := Lib.hid hng
 have HNS := Lib.hid hns
 have HEV := Lib.hid hev
 have HWL : Hid (w.heap.size <= W.heap.size) := hbw.size
 have hM0 : RpM w br (W.heap.size + 1) W.heap.size l #[.slice oe ne ce, .slice of nf cf, .slice og ng cg, .slice os ns cs, .int .i64 ev] ((W.alloc (.cells #[.func (.yield l) #[] #[]] 95)).alloc (.cells #[.bool true] 4)) :=
  ⟨(hrb.alloc _).alloc _, by have h := Blk.new (W.alloc (.cells #[.func (.yield l) #[] #[]] 95)) #[.bool true] 4; rwa [World.size_alloc] at h, (Blk.new W #[.func (.yield l) #[] #[]] 95).alloc _, (hbw.alloc hbw.size _).alloc (by have := hbw.size; simp; omega) _⟩
 have hbA : Below W.heap.size W ((W.alloc (.cells #[.func (.yield l) #[] #[]] 95)).alloc (.cells #[.bool true] 4)) := ((Below.refl _ _).alloc (Nat.le_refl _) _).alloc (by simp) _
 have hJ0 := hJs _ _ _ h0 (rowSt.of_below hbA)
 have HM0 := Lib.hid hM0
 have HJ0 := Lib.hid hJ0
 have HBR : Hid (br ≠ L /\ W.heap.size + 1 ≠ L /\ W.heap.size ≠ L /\ br ≠ W.heap.size + 1 /\ W.heap.size ≠ W.heap.size + 1 /\ w.heap.size <= W.heap.size + 1 /\ L < W.heap.size + 1) := by
  have := hbw.size; exact ⟨by omega, by omega, by omega, by omega, by omega, by omega, by omega⟩
 have c0 := hM0.rb.cell 0
 have c1 := hM0.rb.cell 1
 have c2 := hM0.rb.cell 2
 have c3 := hM0.rb.cell 3
 have c4 := hM0.rb.cell 4
 simp at c0 c1 c2 c3 c4
 clear hrb hbw hbA hM0 hJ0 hR hok ht hJs hY h0 hne hnf hng hns hev hL hLW c1 c2 c3 c4
 gi_wp2_with fail
 obtain ⟨W0, hW0⟩ : ∃ x, (W.alloc (.cells #[.func (.yield l) #[] #[]] 95)).alloc (.cells #[.bool true] 4) = x := ⟨_, rfl⟩
 rw [hW0] at HM0 HJ0 ⊢
 clear c0 hW0
 obtain ⟨bf, hbf⟩ : ∃ b, W.heap.size = b := ⟨_, rfl⟩
 rw [hbf] at HM0 HBR ⊢
 clear hbf HWL
 obtain ⟨bo, hbo⟩ : ∃ b, bf + 1 = b := ⟨_, rfl⟩
 rw [hbo] at HM0 HBR ⊢
 clear hbo
 gi_loopw [17] (fun vi A => ∃ k : Nat, k <= ne /\ vi = .int .i64 k /\ Hid (RpM w br bo bf l #[.slice oe ne ce, .slice of nf cf, .slice og ng cg, .slice os ns cs, .int .i64 ev] A) /\ Hid (J ((r.es.drop k).map Tt.erRow ++ (r.fs.map Tt.flRow ++ (r.gs.map Tt.egRow ++ (r.ss.map Tt.seRow ++ Tt.endRow r.err)))) A)) (fun vi _ => ne - (intOf vi).toNat)
 case atStart => exact ⟨0, Nat.zero_le _, rfl, HM0, HJ0⟩
 case round =>
  obtain ⟨k, hk, rfl, HM, HJ⟩ := hrel
  clear HM0 HJ0
  by_cases hlt : k < ne
  case pos =>
   have hlz : (k : Int) < (ne : Int) := by omega
   have hlen : k < r.es.length := by rw [HNE.out]; exact hlt
   obtain ⟨cs', z, henc, _, ⟨a, rfl, hz⟩, e0, e1⟩ := (HR.out.below HM.out.below).e.at (by decide) k hlen
   obtain ⟨x, hx⟩ : ∃ x, r.es[k] = x := ⟨_, rfl⟩
   have hxok := HOK.out.e _ (List.getElem_mem hlen)
   have hnext := loop_next r.es Tt.erRow (r.fs.map Tt.flRow ++ (r.gs.map Tt.egRow ++ (r.ss.map Tt.seRow ++ Tt.endRow r.err))) k hlen
   rw [hx] at henc hxok hnext
   have hjr := HJ.out
   rw [hnext] at hjr
   have hsh := hxok.short
   clear hnext hx
   obtain ⟨b, rfl, hbk⟩ := henc
   simp only [List.getElem?_cons_zero] at e0
   rw [Nat.mul_one] at hz
   subst hz
   obtain ⟨m1, hm1⟩ : ∃ m : Nat, x.line = m := ⟨x.line.toNat, by have := hxok.l0; omega⟩
   obtain ⟨m2, hm2⟩ : ∃ m : Nat, x.err = m := ⟨x.err.toNat, by have := hxok.e0; omega⟩
   have hm2l : m2 < 13 := by have := hxok.e1; omega
   have hm1l : m1 < 9223372036854775808 := by have := hxok.l1; omega
   obtain ⟨y, hy⟩ : ∃ y, Tt.errText x.path m1 (Tt.wd Tt.errs m2) = y := ⟨_, rfl⟩
   have hrow : Tt.erRow x = [[101, 114, 114, 111, 114], y] := by unfold Tt.erRow; rw [hm1, hm2, Int.toNat_natCast, Int.toNat_natCast, hy]
   have HC : Hid (Calls Tryd.prog 47 #[.pointer (some ⟨b, 0, none⟩)] wr (Gives (S y) wr)) := by
    rw [hm1, hm2] at hbk
    have h := faultErr_any b x.path m1 m2 hm2l wr hbk hxok.p hm1l (HT.out.below HM.out.below)
    rw [<- Tt.wd_at (t := Tt.errs) hm2l, hy] at h; exact h
   rw [hrow] at hjr hsh
   have HJR := Lib.hid hjr
   have HSH := Lib.hid hsh
   clear hjr hsh hbk hxok hm1 hm2 hy hrow e1 HJ
   gi_wp2_with fail
   refine (callsIn_wide.2 HC.out).mono ?_
   rintro e w2 ⟨rfl, b2⟩
   have hba : Below w2.heap.size w2 (w2.alloc (.cells #[S [101, 114, 114, 111, 114], S y] 9)) := (Below.refl _ _).alloc (Nat.le_refl _) _
   have HB3 := Lib.hid (below5 b2 hba)
   have hrd := rd_built [[101, 114, 114, 111, 114], y] (by simp) w2
   have HCALL := Lib.hid (rowCall HJS.out HY.out HBR.out.1 HBR.out.2.1 HBR.out.2.2.1 HBR.out.2.2.2.1 HBR.out.2.2.2.2.1 HBR.out.2.2.2.2.2.1 (HM.out.on HB3.out) (HJS.out _ _ _ HJR.out (rowSt.of_below HB3.out)) hrd (by simp) HSH.out (n := 2) rfl)
   clear b2 hba hrd e0 HC
   gi_wp2_with fail
   refine HCALL.out.mono ?_
   rintro e w6 ⟨⟨u, rfl⟩, hM6, hJ6, _⟩
   have HM6 := Lib.hid hM6
   have HJ6 := Lib.hid hJ6
   clear hM6 hJ6 HCALL
   gi_wp2_with fail
   exact ⟨⟨k + 1, hlt, by go_num, HM6, HJ6⟩, by simp [intOf]; omega⟩
  case neg =>
   obtain rfl : ne = k := by omega
   have hlz : ¬ ((ne : Int) < (ne : Int)) := by omega
   have hje := HJ.out
   rw [loop_end r.es Tt.erRow _ ne (by rw [HNE.out]; exact Nat.le_refl _)] at hje
   have HJ0 := Lib.hid hje
   have HM0 := HM
   clear hje HJ HM
   have c1 : wr.cell? ⟨br, 1, none⟩ = some (.slice of nf cf) := HM0.out.rb.cell 1
   obtain ⟨wq1, rfl⟩ : ∃ x, x = wr := ⟨_, rfl⟩
   gi_wp2_with fail
   clear c1
   gi_loopw [30] (fun vi A => ∃ k : Nat, k <= nf /\ vi = .int .i64 k /\ Hid (RpM w br bo bf l #[.slice oe ne ce, .slice of nf cf, .slice og ng cg, .slice os ns cs, .int .i64 ev] A) /\ Hid (J ((r.fs.drop k).map Tt.flRow ++ (r.gs.map Tt.egRow ++ (r.ss.map Tt.seRow ++ Tt.endRow r.err))) A)) (fun vi _ => nf - (intOf vi).toNat)
   case atStart => exact ⟨0, Nat.zero_le _, rfl, HM0, HJ0⟩
   case round =>
    obtain ⟨k, hk, rfl, HM, HJ⟩ := hrel
    clear HM0 HJ0
    by_cases hlt : k < nf
    case pos =>
     have hlz : (k : Int) < (nf : Int) := by omega
     have hlen : k < r.fs.length := by rw [HNF.out]; exact hlt
     obtain ⟨cs', z, henc, _, ⟨a, rfl, hz⟩, e0, e1⟩ := (HR.out.below HM.out.below).f.at (by decide) k hlen
     obtain ⟨x, hx⟩ : ∃ x, r.fs[k] = x := ⟨_, rfl⟩
     have hxok := HOK.out.f _ (List.getElem_mem hlen)
     have hnext := loop_next r.fs Tt.flRow (r.gs.map Tt.egRow ++ (r.ss.map Tt.seRow ++ Tt.endRow r.err)) k hlen
     rw [hx] at henc hxok hnext
     have hjr := HJ.out
     rw [hnext] at hjr
     have hsh := hxok.short
     clear hnext hx
     obtain ⟨v1, rfl, h1⟩ := henc
     have e_1 := e1 1 (by decide) (by decide)
     have e_2 := e1 2 (by decide) (by decide)
     simp only [List.getElem?_cons_zero, List.getElem?_cons_succ] at e0 e_1 e_2
     have hz' : a.add (k * 3) = z := hz.symm
     clear hz e1
     obtain ⟨m0, hm0⟩ : ∃ m : Nat, x.kind = m := ⟨x.kind.toNat, by have := hxok.k0; omega⟩
     have hml0 : m0 <= 9 := by have := hxok.k1; omega
     rw [hm0] at e0
     obtain ⟨p1, c1, rfl, _, _⟩ := h1.form
     obtain ⟨l1, hl1⟩ : ∃ n, x.owner.length = n := ⟨_, rfl⟩
     rw [hl1] at e_1 h1
     obtain ⟨m2, hm2⟩ : ∃ m : Nat, x.type = m := ⟨x.type.toNat, by have := hxok.t0; omega⟩
     have hml2 : m2 <= 65535 := by have := hxok.t1; omega
     rw [hm2] at e_2
     obtain ⟨y0, hy0⟩ : ∃ y, Tt.wd Tt.flaws m0 = y := ⟨_, rfl⟩
     have H0 : Hid (∀ W', Below wr.heap.size wr W' -> Calls Tryd.prog 48 #[.int .i64 (m0 : Int)] W' (Gives (S y0) W')) := fun W' hW => by
      have hlt2 : m0 < 10 := by omega
      have h := flawWord_any m0 hlt2 W'
      rw [<- Tt.wd_at (t := Tt.flaws) hlt2, hy0] at h; exact h
     obtain ⟨y1, hy1⟩ : ∃ y, Nm.text x.owner = y := ⟨_, rfl⟩
     have H1 : Hid (∀ W', Below wr.heap.size wr W' -> Calls Tryd.prog 49 #[.slice p1 l1 c1] W' (Gives (S y1) W')) := fun W' hW => by
      have h := nText_any _ x.owner W' (h1.below hW) hxok.n
      rw [hy1] at h; exact h
     obtain ⟨y2, hy2⟩ : ∃ y, Ty.text m2 = y := ⟨_, rfl⟩
     have H2 : Hid (∀ W', Below wr.heap.size wr W' -> Calls Tryd.prog 16 #[.int .i64 (m2 : Int)] W' (Gives (S y2) W')) := fun W' hW => by
      exact text_at hy2 (by omega) W' (HT.out.below (below5 HM.out.below hW))
     have hrow : Tt.flRow x = [[102, 108, 97, 119], y0, y1, y2] := by unfold Tt.flRow; rw [hm0, hm2, Int.toNat_natCast, Int.toNat_natCast, hy0, hy1, hy2]
     rw [hrow] at hjr hsh
     have HJR := Lib.hid hjr
     have HSH := Lib.hid hsh
     clear hjr hsh hxok hrow HJ hm0 hl1 h1 hm2 hy0 hy1 hy2
     gi_wp2_with fail
     have hfb := Blk.new wr #[.int .i64 (m0 : Int), .slice p1 l1 c1, .int .i64 (m2 : Int)] 41
     have hfa : Below wr.heap.size wr (wr.alloc (.cells #[.int .i64 (m0 : Int), .slice p1 l1 c1, .int .i64 (m2 : Int)] 41)) := (Below.refl _ _).alloc (Nat.le_refl _) _
     refine drawnH (List.range 12) (Cs [(⟨wr.heap.size, 0, none⟩, Value.int .i64 (m0 : Int)), (⟨wr.heap.size, 1, none⟩, Value.slice p1 l1 c1), (⟨wr.heap.size, 2, none⟩, Value.int .i64 (m2 : Int))]) 12 rfl (by kernel_rfl) ?_
     intro w' hw'
     have hb : Below wr.heap.size wr w' := by subst hw'; exact hfa.drew
     have hB' : Blk wr.heap.size #[.int .i64 (m0 : Int), .slice p1 l1 c1, .int .i64 (m2 : Int)] 41 w' := by subst hw'; exact hfb
     have HCS : Hid (∀ W', Blk wr.heap.size #[.int .i64 (m0 : Int), .slice p1 l1 c1, .int .i64 (m2 : Int)] 41 W' -> Cs [(⟨wr.heap.size, 0, none⟩, Value.int .i64 (m0 : Int)), (⟨wr.heap.size, 1, none⟩, Value.slice p1 l1 c1), (⟨wr.heap.size, 2, none⟩, Value.int .i64 (m2 : Int))] W') := fun W' h => ⟨h.cell 0, h.cell 1, h.cell 2, trivial⟩
     have hS := HCS.out w' hB'
     have HB_0 := Lib.hid hb
     have HF_0 := Lib.hid hB'
     clear hfb hfa hw' hb hB' e0 e_1 e_2 hz'
     refine tH 0 ?qfv0 hS (fun w1 ⟨x0, x1, x2, _⟩ => ?qfy0) ?_
     case qfy0 => (go_simp; try first | rfl | (rw [if_pos (by omega)]) | (rw [if_neg (by omega)]) | (rw [if_neg (by simp; omega)]) | (split <;> first | (exfalso; omega) | rfl))
     refine tH 1 ?qfv1 hS (fun w1 ⟨x0, x1, x2, _⟩ => ?qfy1) ?_
     case qfy1 => (go_simp; try first | rfl | (rw [if_pos (by omega)]) | (rw [if_neg (by omega)]) | (rw [if_neg (by simp; omega)]) | (split <;> first | (exfalso; omega) | rfl))
     refine tH 2 ?qfv2 hS (fun w1 ⟨x0, x1, x2, _⟩ => ?qfy2) ?_
     case qfy2 => (go_simp; try first | rfl | (rw [if_pos (by omega)]) | (rw [if_neg (by omega)]) | (rw [if_neg (by simp; omega)]) | (split <;> first | (exfalso; omega) | rfl))
     refine tH 4 ?qfv4 hS (fun w1 ⟨x0, x1, x2, _⟩ => ?qfy4) ?_
     case qfy4 => (go_simp; try first | rfl | (rw [if_pos (by omega)]) | (rw [if_neg (by omega)]) | (rw [if_neg (by simp; omega)]) | (split <;> first | (exfalso; omega) | rfl))
     refine tH 5 ?qfv5 hS (fun w1 ⟨x0, x1, x2, _⟩ => ?qfy5) ?_
     case qfy5 => (go_simp; try first | rfl | (rw [if_pos (by omega)]) | (rw [if_neg (by omega)]) | (rw [if_neg (by simp; omega)]) | (split <;> first | (exfalso; omega) | rfl))
     refine tH 7 ?qfv7 hS (fun w1 ⟨x0, x1, x2, _⟩ => ?qfy7) ?_
     case qfy7 => (go_simp; try first | rfl | (rw [if_pos (by omega)]) | (rw [if_neg (by omega)]) | (rw [if_neg (by simp; omega)]) | (split <;> first | (exfalso; omega) | rfl))
     refine tH 8 ?qfv8 hS (fun w1 ⟨x0, x1, x2, _⟩ => ?qfy8) ?_
     case qfy8 => (go_simp; try first | rfl | (rw [if_pos (by omega)]) | (rw [if_neg (by omega)]) | (rw [if_neg (by simp; omega)]) | (split <;> first | (exfalso; omega) | rfl))
     simp only [Act.put, List.setIfInBounds_toArray, List.set_cons_succ, List.set_cons_zero]
     clear hS
     refine oneH 3 (by rfl) (by kernel_rfl) (fun K hK => ?_)
     gi_wp2_with (gi_at_call 48; refine (callsIn_wide.2 (H0.out _ HB_0.out)).mono ?_; rintro e w_1 ⟨rfl, b2⟩)
     have HB_1 := Lib.hid (below5 HB_0.out b2)
     have HF_1 := Lib.hid (HF_0.out.below b2)
     refine hK _ _ (fun _ => HCS.out _ HF_1.out) ?_
     clear hK K b2 H0
     refine oneH 6 (by rfl) (by kernel_rfl) (fun K hK => ?_)
     gi_wp2_with (gi_at_call 49; refine (callsIn_wide.2 (H1.out _ HB_1.out)).mono ?_; rintro e w_2 ⟨rfl, b2⟩)
     have HB_2 := Lib.hid (below5 HB_1.out b2)
     have HF_2 := Lib.hid (HF_1.out.below b2)
     refine hK _ _ (fun _ => HCS.out _ HF_2.out) ?_
     clear hK K b2 H1
     refine oneH 9 (by rfl) (by kernel_rfl) (fun K hK => ?_)
     gi_wp2_with (gi_at_call 16; refine (callsIn_wide.2 (H2.out _ HB_2.out)).mono ?_; rintro e w_3 ⟨rfl, b2⟩)
     have HB_3 := Lib.hid (below5 HB_2.out b2)
     have HF_3 := Lib.hid (HF_2.out.below b2)
     refine hK _ _ (fun _ => HCS.out _ HF_3.out) ?_
     clear hK K b2 H2
     have hba : Below w_3.heap.size w_3 (w_3.alloc (.cells #[S [102, 108, 97, 119], S y0, S y1, S y2] 9)) := (Below.refl _ _).alloc (Nat.le_refl _) _
     have HBB := Lib.hid (below5 HB_3.out hba)
     have HFF := Lib.hid (HF_3.out.below hba)
     have hrd := rd_built [[102, 108, 97, 119], y0, y1, y2] (by simp) w_3
     have HCALL := Lib.hid (rowCall HJS.out HY.out HBR.out.1 HBR.out.2.1 HBR.out.2.2.1 HBR.out.2.2.2.1 HBR.out.2.2.2.2.1 HBR.out.2.2.2.2.2.1 (HM.out.on HBB.out) (HJS.out _ _ _ HJR.out (rowSt.of_below HBB.out)) hrd (by simp) HSH.out (n := 4) rfl)
     clear hba hrd
     refine oneH 10 (by rfl) (by kernel_rfl) (fun K hK => ?_)
     gi_wp2_with fail
     refine hK _ _ (fun _ => HCS.out _ HFF.out) ?_
     clear hK K
     refine oneH 11 (by rfl) (by kernel_rfl) (fun K hK => ?_)
     gi_wp2_with (gi_at_call 46; refine HCALL.out.mono ?_; rintro e w6 ⟨⟨u, rfl⟩, hM6, hJ6, hk6⟩)
     have HM6 := Lib.hid hM6
     have HJ6 := Lib.hid hJ6
     have HK6 := Lib.hid hk6
     refine hK _ _ (fun _ => HCS.out _ (HK6.out.blk HFF.out (by have h1 := HBR.out.2.2.2.2.2.2; have h2 := HM.out.ob.lt; omega) (by decide) (by decide))) ?_
     clear hM6 hJ6 hk6 HCALL hK K
     refine doneH (by kernel_rfl) ?_
     gi_wp2_with fail
     exact ⟨⟨k + 1, hlt, by go_num, HM6, HJ6⟩, by simp [intOf]; omega⟩
    case neg =>
     obtain rfl : nf = k := by omega
     have hlz : ¬ ((nf : Int) < (nf : Int)) := by omega
     have hje := HJ.out
     rw [loop_end r.fs Tt.flRow _ nf (by rw [HNF.out]; exact Nat.le_refl _)] at hje
     have HJ0 := Lib.hid hje
     have HM0 := HM
     clear hje HJ HM
     have c2 : wr.cell? ⟨br, 2, none⟩ = some (.slice og ng cg) := HM0.out.rb.cell 2
     obtain ⟨wq2, rfl⟩ : ∃ x, x = wr := ⟨_, rfl⟩
     gi_wp2_with fail
     clear c2
     gi_loopw [50] (fun vi A => ∃ k : Nat, k <= ng /\ vi = .int .i64 k /\ Hid (RpM w br bo bf l #[.slice oe ne ce, .slice of nf cf, .slice og ng cg, .slice os ns cs, .int .i64 ev] A) /\ Hid (J ((r.gs.drop k).map Tt.egRow ++ (r.ss.map Tt.seRow ++ Tt.endRow r.err)) A)) (fun vi _ => ng - (intOf vi).toNat)
     case atStart => exact ⟨0, Nat.zero_le _, rfl, HM0, HJ0⟩
     case round =>
      obtain ⟨k, hk, rfl, HM, HJ⟩ := hrel
      clear HM0 HJ0
      by_cases hlt : k < ng
      case pos =>
       have hlz : (k : Int) < (ng : Int) := by omega
       have hlen : k < r.gs.length := by rw [HNG.out]; exact hlt
       obtain ⟨cs', z, henc, _, ⟨a, rfl, hz⟩, e0, e1⟩ := (HR.out.below HM.out.below).g.at (by decide) k hlen
       obtain ⟨x, hx⟩ : ∃ x, r.gs[k] = x := ⟨_, rfl⟩
       have hxok := HOK.out.g _ (List.getElem_mem hlen)
       have hnext := loop_next r.gs Tt.egRow (r.ss.map Tt.seRow ++ Tt.endRow r.err) k hlen
       rw [hx] at henc hxok hnext
       have hjr := HJ.out
       rw [hnext] at hjr
       have hsh := hxok.short
       clear hnext hx
       obtain ⟨v1, v2, v3, rfl, h1, h2, h3⟩ := henc
       have e_1 := e1 1 (by decide) (by decide)
       have e_2 := e1 2 (by decide) (by decide)
       have e_3 := e1 3 (by decide) (by decide)
       have e_4 := e1 4 (by decide) (by decide)
       simp only [List.getElem?_cons_zero, List.getElem?_cons_succ] at e0 e_1 e_2 e_3 e_4
       have hz' : a.add (k * 5) = z := hz.symm
       clear hz e1
       obtain ⟨m0, hm0⟩ : ∃ m : Nat, x.kind = m := ⟨x.kind.toNat, by have := hxok.k0; omega⟩
       have hml0 : m0 <= 4 := by have := hxok.k1; omega
       rw [hm0] at e0
       obtain ⟨p1, c1, rfl, _, _⟩ := h1.form
       obtain ⟨l1, hl1⟩ : ∃ n, x.parent.length = n := ⟨_, rfl⟩
       rw [hl1] at e_1 h1
       obtain ⟨p2, c2, rfl, _, _⟩ := h2.form
       obtain ⟨l2, hl2⟩ : ∃ n, x.child.length = n := ⟨_, rfl⟩
       rw [hl2] at e_2 h2
       obtain ⟨p3, c3, rfl, _, _⟩ := h3.form
       obtain ⟨l3, hl3⟩ : ∃ n, x.host.length = n := ⟨_, rfl⟩
       rw [hl3] at e_3 h3
       obtain ⟨m4, hm4⟩ : ∃ m : Nat, x.server = m := ⟨x.server.toNat, by have := hxok.s0; omega⟩
       have hml4 : m4 <= 1099511627776 := by have := hxok.s1; omega
       rw [hm4] at e_4
       obtain ⟨y0, hy0⟩ : ∃ y, Tt.wd Tt.edges m0 = y := ⟨_, rfl⟩
       have H0 : Hid (∀ W', Below wr.heap.size wr W' -> Calls Tryd.prog 50 #[.int .i64 (m0 : Int)] W' (Gives (S y0) W')) := fun W' hW => by
        have hlt2 : m0 < 5 := by omega
        have h := edgeWord_any m0 hlt2 W'
        rw [<- Tt.wd_at (t := Tt.edges) hlt2, hy0] at h; exact h
       obtain ⟨y1, hy1⟩ : ∃ y, Nm.text x.parent = y := ⟨_, rfl⟩
       have H1 : Hid (∀ W', Below wr.heap.size wr W' -> Calls Tryd.prog 49 #[.slice p1 l1 c1] W' (Gives (S y1) W')) := fun W' hW => by
        have h := nText_any _ x.parent W' (h1.below hW) hxok.p
        rw [hy1] at h; exact h
       obtain ⟨y2, hy2⟩ : ∃ y, Nm.text x.child = y := ⟨_, rfl⟩
       have H2 : Hid (∀ W', Below wr.heap.size wr W' -> Calls Tryd.prog 49 #[.slice p2 l2 c2] W' (Gives (S y2) W')) := fun W' hW => by
        have h := nText_any _ x.child W' (h2.below hW) hxok.c
        rw [hy2] at h; exact h
       obtain ⟨y3, hy3⟩ : ∃ y, Tt.host x.host = y := ⟨_, rfl⟩
       have H3 : Hid (∀ W', Below wr.heap.size wr W' -> Calls Tryd.prog 51 #[.slice p3 l3 c3] W' (Gives (S y3) W')) := fun W' hW => by
        have h := host_any _ x.host W' (h3.below hW) hxok.h
        rw [hy3] at h; exact h
       obtain ⟨y4, hy4⟩ : ∃ y, Lib.decDigits m4 = y := ⟨_, rfl⟩
       have H4 : Hid (∀ W', Below wr.heap.size wr W' -> Calls Tryd.prog 41 #[.int .i64 (m4 : Int)] W' (Gives (S y4) W')) := fun W' hW => by
        have h := itoa_any m4 (by omega) W' (HT.out.below (below5 HM.out.below hW))
        rw [hy4] at h; exact h
       have hrow : Tt.egRow x = [[101, 100, 103, 101], y0, y1, y2, y3, y4] := by unfold Tt.egRow; rw [hm0, hm4, Int.toNat_natCast, Int.toNat_natCast, hy0, hy1, hy2, hy3, hy4]
       rw [hrow] at hjr hsh
       have HJR := Lib.hid hjr
       have HSH := Lib.hid hsh
       clear hjr hsh hxok hrow HJ hm0 hl1 h1 hl2 h2 hl3 h3 hm4 hy0 hy1 hy2 hy3 hy4
       gi_wp2_with fail
       have hfb := Blk.new wr #[.int .i64 (m0 : Int), .slice p1 l1 c1, .slice p2 l2 c2, .slice p3 l3 c3, .int .i64 (m4 : Int)] 55
       have hfa : Below wr.heap.size wr (wr.alloc (.cells #[.int .i64 (m0 : Int), .slice p1 l1 c1, .slice p2 l2 c2, .slice p3 l3 c3, .int .i64 (m4 : Int)] 55)) := (Below.refl _ _).alloc (Nat.le_refl _) _
       refine drawnH (List.range 18) (Cs [(⟨wr.heap.size, 0, none⟩, Value.int .i64 (m0 : Int)), (⟨wr.heap.size, 1, none⟩, Value.slice p1 l1 c1), (⟨wr.heap.size, 2, none⟩, Value.slice p2 l2 c2), (⟨wr.heap.size, 3, none⟩, Value.slice p3 l3 c3), (⟨wr.heap.size, 4, none⟩, Value.int .i64 (m4 : Int))]) 18 rfl (by kernel_rfl) ?_
       intro w' hw'
       have hb : Below wr.heap.size wr w' := by subst hw'; exact hfa.drew
       have hB' : Blk wr.heap.size #[.int .i64 (m0 : Int), .slice p1 l1 c1, .slice p2 l2 c2, .slice p3 l3 c3, .int .i64 (m4 : Int)] 55 w' := by subst hw'; exact hfb
       have HCS : Hid (∀ W', Blk wr.heap.size #[.int .i64 (m0 : Int), .slice p1 l1 c1, .slice p2 l2 c2, .slice p3 l3 c3, .int .i64 (m4 : Int)] 55 W' -> Cs [(⟨wr.heap.size, 0, none⟩, Value.int .i64 (m0 : Int)), (⟨wr.heap.size, 1, none⟩, Value.slice p1 l1 c1), (⟨wr.heap.size, 2, none⟩, Value.slice p2 l2 c2), (⟨wr.heap.size, 3, none⟩, Value.slice p3 l3 c3), (⟨wr.heap.size, 4, none⟩, Value.int .i64 (m4 : Int))] W') := fun W' h => ⟨h.cell 0, h.cell 1, h.cell 2, h.cell 3, h.cell 4, trivial⟩
       have hS := HCS.out w' hB'
       have HB_0 := Lib.hid hb
       have HF_0 := Lib.hid hB'
       clear hfb hfa hw' hb hB' e0 e_1 e_2 e_3 e_4 hz'
       refine tH 0 ?qgv0 hS (fun w1 ⟨x0, x1, x2, x3, x4, _⟩ => ?qgy0) ?_
       case qgy0 => (go_simp; try first | rfl | (rw [if_pos (by omega)]) | (rw [if_neg (by omega)]) | (rw [if_neg (by simp; omega)]) | (split <;> first | (exfalso; omega) | rfl))
       refine tH 1 ?qgv1 hS (fun w1 ⟨x0, x1, x2, x3, x4, _⟩ => ?qgy1) ?_
       case qgy1 => (go_simp; try first | rfl | (rw [if_pos (by omega)]) | (rw [if_neg (by omega)]) | (rw [if_neg (by simp; omega)]) | (split <;> first | (exfalso; omega) | rfl))
       refine tH 2 ?qgv2 hS (fun w1 ⟨x0, x1, x2, x3, x4, _⟩ => ?qgy2) ?_
       case qgy2 => (go_simp; try first | rfl | (rw [if_pos (by omega)]) | (rw [if_neg (by omega)]) | (rw [if_neg (by simp; omega)]) | (split <;> first | (exfalso; omega) | rfl))
       refine tH 4 ?qgv4 hS (fun w1 ⟨x0, x1, x2, x3, x4, _⟩ => ?qgy4) ?_
       case qgy4 => (go_simp; try first | rfl | (rw [if_pos (by omega)]) | (rw [if_neg (by omega)]) | (rw [if_neg (by simp; omega)]) | (split <;> first | (exfalso; omega) | rfl))
       refine tH 5 ?qgv5 hS (fun w1 ⟨x0, x1, x2, x3, x4, _⟩ => ?qgy5) ?_
       case qgy5 => (go_simp; try first | rfl | (rw [if_pos (by omega)]) | (rw [if_neg (by omega)]) | (rw [if_neg (by simp; omega)]) | (split <;> first | (exfalso; omega) | rfl))
       refine tH 7 ?qgv7 hS (fun w1 ⟨x0, x1, x2, x3, x4, _⟩ => ?qgy7) ?_
       case qgy7 => (go_simp; try first | rfl | (rw [if_pos (by omega)]) | (rw [if_neg (by omega)]) | (rw [if_neg (by simp; omega)]) | (split <;> first | (exfalso; omega) | rfl))
       refine tH 8 ?qgv8 hS (fun w1 ⟨x0, x1, x2, x3, x4, _⟩ => ?qgy8) ?_
       case qgy8 => (go_simp; try first | rfl | (rw [if_pos (by omega)]) | (rw [if_neg (by omega)]) | (rw [if_neg (by simp; omega)]) | (split <;> first | (exfalso; omega) | rfl))
       refine tH 10 ?qgv10 hS (fun w1 ⟨x0, x1, x2, x3, x4, _⟩ => ?qgy10) ?_
       case qgy10 => (go_simp; try first | rfl | (rw [if_pos (by omega)]) | (rw [if_neg (by omega)]) | (rw [if_neg (by simp; omega)]) | (split <;> first | (exfalso; omega) | rfl))
       refine tH 11 ?qgv11 hS (fun w1 ⟨x0, x1, x2, x3, x4, _⟩ => ?qgy11) ?_
       case qgy11 => (go_simp; try first | rfl | (rw [if_pos (by omega)]) | (rw [if_neg (by omega)]) | (rw [if_neg (by simp; omega)]) | (split <;> first | (exfalso; omega) | rfl))
       refine tH 13 ?qgv13 hS (fun w1 ⟨x0, x1, x2, x3, x4, _⟩ => ?qgy13) ?_
       case qgy13 => (go_simp; try first | rfl | (rw [if_pos (by omega)]) | (rw [if_neg (by omega)]) | (rw [if_neg (by simp; omega)]) | (split <;> first | (exfalso; omega) | rfl))
       refine tH 14 ?qgv14 hS (fun w1 ⟨x0, x1, x2, x3, x4, _⟩ => ?qgy14) ?_
       case qgy14 => (go_simp; try first | rfl | (rw [if_pos (by omega)]) | (rw [if_neg (by omega)]) | (rw [if_neg (by simp; omega)]) | (split <;> first | (exfalso; omega) | rfl))
       simp only [Act.put, List.setIfInBounds_toArray, List.set_cons_succ, List.set_cons_zero]
       clear hS
       refine oneH 3 (by rfl) (by kernel_rfl) (fun K hK => ?_)
       gi_wp2_with (gi_at_call 50; refine (callsIn_wide.2 (H0.out _ HB_0.out)).mono ?_; rintro e w_1 ⟨rfl, b2⟩)
       have HB_1 := Lib.hid (below5 HB_0.out b2)
       have HF_1 := Lib.hid (HF_0.out.below b2)
       refine hK _ _ (fun _ => HCS.out _ HF_1.out) ?_
       clear hK K b2 H0
       refine oneH 6 (by rfl) (by kernel_rfl) (fun K hK => ?_)
       gi_wp2_with (gi_at_call 49; refine (callsIn_wide.2 (H1.out _ HB_1.out)).mono ?_; rintro e w_2 ⟨rfl, b2⟩)
       have HB_2 := Lib.hid (below5 HB_1.out b2)
       have HF_2 := Lib.hid (HF_1.out.below b2)
       refine hK _ _ (fun _ => HCS.out _ HF_2.out) ?_
       clear hK K b2 H1
       refine oneH 9 (by rfl) (by kernel_rfl) (fun K hK => ?_)
       gi_wp2_with (gi_at_call 49; refine (callsIn_wide.2 (H2.out _ HB_2.out)).mono ?_; rintro e w_3 ⟨rfl, b2⟩)
       have HB_3 := Lib.hid (below5 HB_2.out b2)
       have HF_3 := Lib.hid (HF_2.out.below b2)
       refine hK _ _ (fun _ => HCS.out _ HF_3.out) ?_
       clear hK K b2 H2
       refine oneH 12 (by rfl) (by kernel_rfl) (fun K hK => ?_)
       gi_wp2_with (gi_at_call 51; refine (callsIn_wide.2 (H3.out _ HB_3.out)).mono ?_; rintro e w_4 ⟨rfl, b2⟩)
       have HB_4 := Lib.hid (below5 HB_3.out b2)
       have HF_4 := Lib.hid (HF_3.out.below b2)
       refine hK _ _ (fun _ => HCS.out _ HF_4.out) ?_
       clear hK K b2 H3
       refine oneH 15 (by rfl) (by kernel_rfl) (fun K hK => ?_)
       gi_wp2_with (gi_at_call 41; refine (callsIn_wide.2 (H4.out _ HB_4.out)).mono ?_; rintro e w_5 ⟨rfl, b2⟩)
       have HB_5 := Lib.hid (below5 HB_4.out b2)
       have HF_5 := Lib.hid (HF_4.out.below b2)
       refine hK _ _ (fun _ => HCS.out _ HF_5.out) ?_
       clear hK K b2 H4
       have hba : Below w_5.heap.size w_5 (w_5.alloc (.cells #[S [101, 100, 103, 101], S y0, S y1, S y2, S y3, S y4] 9)) := (Below.refl _ _).alloc (Nat.le_refl _) _
       have HBB := Lib.hid (below5 HB_5.out hba)
       have HFF := Lib.hid (HF_5.out.below hba)
       have hrd := rd_built [[101, 100, 103, 101], y0, y1, y2, y3, y4] (by simp) w_5
       have HCALL := Lib.hid (rowCall HJS.out HY.out HBR.out.1 HBR.out.2.1 HBR.out.2.2.1 HBR.out.2.2.2.1 HBR.out.2.2.2.2.1 HBR.out.2.2.2.2.2.1 (HM.out.on HBB.out) (HJS.out _ _ _ HJR.out (rowSt.of_below HBB.out)) hrd (by simp) HSH.out (n := 6) rfl)
       clear hba hrd
       refine oneH 16 (by rfl) (by kernel_rfl) (fun K hK => ?_)
       gi_wp2_with fail
       refine hK _ _ (fun _ => HCS.out _ HFF.out) ?_
       clear hK K
       refine oneH 17 (by rfl) (by kernel_rfl) (fun K hK => ?_)
       gi_wp2_with (gi_at_call 46; refine HCALL.out.mono ?_; rintro e w6 ⟨⟨u, rfl⟩, hM6, hJ6, hk6⟩)
       have HM6 := Lib.hid hM6
       have HJ6 := Lib.hid hJ6
       have HK6 := Lib.hid hk6
       refine hK _ _ (fun _ => HCS.out _ (HK6.out.blk HFF.out (by have h1 := HBR.out.2.2.2.2.2.2; have h2 := HM.out.ob.lt; omega) (by decide) (by decide))) ?_
       clear hM6 hJ6 hk6 HCALL hK K
       refine doneH (by kernel_rfl) ?_
       gi_wp2_with fail
       exact ⟨⟨k + 1, hlt, by go_num, HM6, HJ6⟩, by simp [intOf]; omega⟩
      case neg =>
       obtain rfl : ng = k := by omega
       have hlz : ¬ ((ng : Int) < (ng : Int)) := by omega
       have hje := HJ.out
       rw [loop_end r.gs Tt.egRow _ ng (by rw [HNG.out]; exact Nat.le_refl _)] at hje
       have HJ0 := Lib.hid hje
       have HM0 := HM
       clear hje HJ HM
       have c3 : wr.cell? ⟨br, 3, none⟩ = some (.slice os ns cs) := HM0.out.rb.cell 3
       obtain ⟨wq3, rfl⟩ : ∃ x, x = wr := ⟨_, rfl⟩
       gi_wp2_with fail
       clear c3
       gi_loopw [76] (fun vi A => ∃ k : Nat, k <= ns /\ vi = .int .i64 k /\ Hid (RpM w br bo bf l #[.slice oe ne ce, .slice of nf cf, .slice og ng cg, .slice os ns cs, .int .i64 ev] A) /\ Hid (J ((r.ss.drop k).map Tt.seRow ++ (Tt.endRow r.err)) A)) (fun vi _ => ns - (intOf vi).toNat)
       case atStart => exact ⟨0, Nat.zero_le _, rfl, HM0, HJ0⟩
       case round =>
        obtain ⟨k, hk, rfl, HM, HJ⟩ := hrel
        clear HM0 HJ0
        by_cases hlt : k < ns
        case pos =>
         have hlz : (k : Int) < (ns : Int) := by omega
         have hlen : k < r.ss.length := by rw [HNS.out]; exact hlt
         obtain ⟨cs', z, henc, _, ⟨a, rfl, hz⟩, e0, e1⟩ := (HR.out.below HM.out.below).s.at (by decide) k hlen
         obtain ⟨x, hx⟩ : ∃ x, r.ss[k] = x := ⟨_, rfl⟩
         have hxok := HOK.out.s _ (List.getElem_mem hlen)
         have hnext := loop_next r.ss Tt.seRow (Tt.endRow r.err) k hlen
         rw [hx] at henc hxok hnext
         have hjr := HJ.out
         rw [hnext] at hjr
         have hsh := hxok.short
         clear hnext hx
         obtain ⟨v1, v3, rfl, h1, h3⟩ := henc
         have e_1 := e1 1 (by decide) (by decide)
         have e_2 := e1 2 (by decide) (by decide)
         have e_3 := e1 3 (by decide) (by decide)
         simp only [List.getElem?_cons_zero, List.getElem?_cons_succ] at e0 e_1 e_2 e_3
         have hz' : a.add (k * 4) = z := hz.symm
         clear hz e1
         obtain ⟨m0, hm0⟩ : ∃ m : Nat, x.kind = m := ⟨x.kind.toNat, by have := hxok.k0; omega⟩
         have hml0 : m0 <= 9 := by have := hxok.k1; omega
         rw [hm0] at e0
         obtain ⟨p1, c1, rfl, _, _⟩ := h1.form
         obtain ⟨l1, hl1⟩ : ∃ n, x.name.length = n := ⟨_, rfl⟩
         rw [hl1] at e_1 h1
         obtain ⟨m2, hm2⟩ : ∃ m : Nat, x.type = m := ⟨x.type.toNat, by have := hxok.t0; omega⟩
         have hml2 : m2 <= 65535 := by have := hxok.t1; omega
         rw [hm2] at e_2
         have hnu := NuRd.of_sl h3 (fun y hy => (hxok.p y hy).1)
         obtain ⟨p3, c3, rfl⟩ := hnu.form
         obtain ⟨l3, hl3⟩ : ∃ n, (x.picks.map Int.toNat).length = n := ⟨_, rfl⟩
         rw [hl3] at e_3 hnu
         obtain ⟨y0, hy0⟩ : ∃ y, Tt.wd Tt.ends m0 = y := ⟨_, rfl⟩
         have H0 : Hid (∀ W', Below wr.heap.size wr W' -> Calls Tryd.prog 52 #[.int .i64 (m0 : Int)] W' (Gives (S y0) W')) := fun W' hW => by
          have hlt2 : m0 < 10 := by omega
          have h := endWord_any m0 hlt2 W'
          rw [<- Tt.wd_at (t := Tt.ends) hlt2, hy0] at h; exact h
         obtain ⟨y1, hy1⟩ : ∃ y, Nm.text x.name = y := ⟨_, rfl⟩
         have H1 : Hid (∀ W', Below wr.heap.size wr W' -> Calls Tryd.prog 49 #[.slice p1 l1 c1] W' (Gives (S y1) W')) := fun W' hW => by
          have h := nText_any _ x.name W' (h1.below hW) hxok.n
          rw [hy1] at h; exact h
         obtain ⟨y2, hy2⟩ : ∃ y, Ty.text m2 = y := ⟨_, rfl⟩
         have H2 : Hid (∀ W', Below wr.heap.size wr W' -> Calls Tryd.prog 16 #[.int .i64 (m2 : Int)] W' (Gives (S y2) W')) := fun W' hW => by
          exact text_at hy2 (by omega) W' (HT.out.below (below5 HM.out.below hW))
         obtain ⟨y3, hy3⟩ : ∃ y, Tt.picks (x.picks.map Int.toNat) = y := ⟨_, rfl⟩
         have H3 : Hid (∀ W', Below wr.heap.size wr W' -> Calls Tryd.prog 53 #[.slice p3 l3 c3] W' (Gives (S y3) W')) := fun W' hW => by
          have h := picks_any _ _ W' (hnu.below hW) (by rw [List.length_map]; exact hxok.l) (fun n hn => by
           obtain ⟨y, hy, rfl⟩ := List.mem_map.1 hn
           have := hxok.p y hy; omega) (HT.out.below (below5 HM.out.below hW))
          rw [hy3] at h; exact h
         have hrow : Tt.seRow x = [[115, 101, 101, 110], y0, y1, y2, y3] := by unfold Tt.seRow; rw [hm0, hm2, Int.toNat_natCast, Int.toNat_natCast, hy0, hy1, hy2, hy3]
         rw [hrow] at hjr hsh
         have HJR := Lib.hid hjr
         have HSH := Lib.hid hsh
         clear hjr hsh hxok hrow HJ hm0 hl1 h1 hm2 hl3 h3 hnu hy0 hy1 hy2 hy3
         gi_wp2_with fail
         have hfb := Blk.new wr #[.int .i64 (m0 : Int), .slice p1 l1 c1, .int .i64 (m2 : Int), .slice p3 l3 c3] 44
         have hfa : Below wr.heap.size wr (wr.alloc (.cells #[.int .i64 (m0 : Int), .slice p1 l1 c1, .int .i64 (m2 : Int), .slice p3 l3 c3] 44)) := (Below.refl _ _).alloc (Nat.le_refl _) _
         refine drawnH (List.range 15) (Cs [(⟨wr.heap.size, 0, none⟩, Value.int .i64 (m0 : Int)), (⟨wr.heap.size, 1, none⟩, Value.slice p1 l1 c1), (⟨wr.heap.size, 2, none⟩, Value.int .i64 (m2 : Int)), (⟨wr.heap.size, 3, none⟩, Value.slice p3 l3 c3)]) 15 rfl (by kernel_rfl) ?_
         intro w' hw'
         have hb : Below wr.heap.size wr w' := by subst hw'; exact hfa.drew
         have hB' : Blk wr.heap.size #[.int .i64 (m0 : Int), .slice p1 l1 c1, .int .i64 (m2 : Int), .slice p3 l3 c3] 44 w' := by subst hw'; exact hfb
         have HCS : Hid (∀ W', Blk wr.heap.size #[.int .i64 (m0 : Int), .slice p1 l1 c1, .int .i64 (m2 : Int), .slice p3 l3 c3] 44 W' -> Cs [(⟨wr.heap.size, 0, none⟩, Value.int .i64 (m0 : Int)), (⟨wr.heap.size, 1, none⟩, Value.slice p1 l1 c1), (⟨wr.heap.size, 2, none⟩, Value.int .i64 (m2 : Int)), (⟨wr.heap.size, 3, none⟩, Value.slice p3 l3 c3)] W') := fun W' h => ⟨h.cell 0, h.cell 1, h.cell 2, h.cell 3, trivial⟩
         have hS := HCS.out w' hB'
         have HB_0 := Lib.hid hb
         have HF_0 := Lib.hid hB'
         clear hfb hfa hw' hb hB' e0 e_1 e_2 e_3 hz'
         refine tH 0 ?qsv0 hS (fun w1 ⟨x0, x1, x2, x3, _⟩ => ?qsy0) ?_
         case qsy0 => (go_simp; try first | rfl | (rw [if_pos (by omega)]) | (rw [if_neg (by omega)]) | (rw [if_neg (by simp; omega)]) | (split <;> first | (exfalso; omega) | rfl))
         refine tH 1 ?qsv1 hS (fun w1 ⟨x0, x1, x2, x3, _⟩ => ?qsy1) ?_
         case qsy1 => (go_simp; try first | rfl | (rw [if_pos (by omega)]) | (rw [if_neg (by omega)]) | (rw [if_neg (by simp; omega)]) | (split <;> first | (exfalso; omega) | rfl))
         refine tH 2 ?qsv2 hS (fun w1 ⟨x0, x1, x2, x3, _⟩ => ?qsy2) ?_
         case qsy2 => (go_simp; try first | rfl | (rw [if_pos (by omega)]) | (rw [if_neg (by omega)]) | (rw [if_neg (by simp; omega)]) | (split <;> first | (exfalso; omega) | rfl))
         refine tH 4 ?qsv4 hS (fun w1 ⟨x0, x1, x2, x3, _⟩ => ?qsy4) ?_
         case qsy4 => (go_simp; try first | rfl | (rw [if_pos (by omega)]) | (rw [if_neg (by omega)]) | (rw [if_neg (by simp; omega)]) | (split <;> first | (exfalso; omega) | rfl))
         refine tH 5 ?qsv5 hS (fun w1 ⟨x0, x1, x2, x3, _⟩ => ?qsy5) ?_
         case qsy5 => (go_simp; try first | rfl | (rw [if_pos (by omega)]) | (rw [if_neg (by omega)]) | (rw [if_neg (by simp; omega)]) | (split <;> first | (exfalso; omega) | rfl))
         refine tH 7 ?qsv7 hS (fun w1 ⟨x0, x1, x2, x3, _⟩ => ?qsy7) ?_
         case qsy7 => (go_simp; try first | rfl | (rw [if_pos (by omega)]) | (rw [if_neg (by omega)]) | (rw [if_neg (by simp; omega)]) | (split <;> first | (exfalso; omega) | rfl))
         refine tH 8 ?qsv8 hS (fun w1 ⟨x0, x1, x2, x3, _⟩ => ?qsy8) ?_
         case qsy8 => (go_simp; try first | rfl | (rw [if_pos (by omega)]) | (rw [if_neg (by omega)]) | (rw [if_neg (by simp; omega)]) | (split <;> first | (exfalso; omega) | rfl))
         refine tH 10 ?qsv10 hS (fun w1 ⟨x0, x1, x2, x3, _⟩ => ?qsy10) ?_
         case qsy10 => (go_simp; try first | rfl | (rw [if_pos (by omega)]) | (rw [if_neg (by omega)]) | (rw [if_neg (by simp; omega)]) | (split <;> first | (exfalso; omega) | rfl))
         refine tH 11 ?qsv11 hS (fun w1 ⟨x0, x1, x2, x3, _⟩ => ?qsy11) ?_
         case qsy11 => (go_simp; try first | rfl | (rw [if_pos (by omega)]) | (rw [if_neg (by omega)]) | (rw [if_neg (by simp; omega)]) | (split <;> first | (exfalso; omega) | rfl))
         simp only [Act.put, List.setIfInBounds_toArray, List.set_cons_succ, List.set_cons_zero]
         clear hS
         refine oneH 3 (by rfl) (by kernel_rfl) (fun K hK => ?_)
         gi_wp2_with (gi_at_call 52; refine (callsIn_wide.2 (H0.out _ HB_0.out)).mono ?_; rintro e w_1 ⟨rfl, b2⟩)
         have HB_1 := Lib.hid (below5 HB_0.out b2)
         have HF_1 := Lib.hid (HF_0.out.below b2)
         refine hK _ _ (fun _ => HCS.out _ HF_1.out) ?_
         clear hK K b2 H0
         refine oneH 6 (by rfl) (by kernel_rfl) (fun K hK => ?_)
         gi_wp2_with (gi_at_call 49; refine (callsIn_wide.2 (H1.out _ HB_1.out)).mono ?_; rintro e w_2 ⟨rfl, b2⟩)
         have HB_2 := Lib.hid (below5 HB_1.out b2)
         have HF_2 := Lib.hid (HF_1.out.below b2)
         refine hK _ _ (fun _ => HCS.out _ HF_2.out) ?_
         clear hK K b2 H1
         refine oneH 9 (by rfl) (by kernel_rfl) (fun K hK => ?_)
         gi_wp2_with (gi_at_call 16; refine (callsIn_wide.2 (H2.out _ HB_2.out)).mono ?_; rintro e w_3 ⟨rfl, b2⟩)
         have HB_3 := Lib.hid (below5 HB_2.out b2)
         have HF_3 := Lib.hid (HF_2.out.below b2)
         refine hK _ _ (fun _ => HCS.out _ HF_3.out) ?_
         clear hK K b2 H2
         refine oneH 12 (by rfl) (by kernel_rfl) (fun K hK => ?_)
         gi_wp2_with (gi_at_call 53; refine (callsIn_wide.2 (H3.out _ HB_3.out)).mono ?_; rintro e w_4 ⟨rfl, b2⟩)
         have HB_4 := Lib.hid (below5 HB_3.out b2)
         have HF_4 := Lib.hid (HF_3.out.below b2)
         refine hK _ _ (fun _ => HCS.out _ HF_4.out) ?_
         clear hK K b2 H3
         have hba : Below w_4.heap.size w_4 (w_4.alloc (.cells #[S [115, 101, 101, 110], S y0, S y1, S y2, S y3] 9)) := (Below.refl _ _).alloc (Nat.le_refl _) _
         have HBB := Lib.hid (below5 HB_4.out hba)
         have HFF := Lib.hid (HF_4.out.below hba)
         have hrd := rd_built [[115, 101, 101, 110], y0, y1, y2, y3] (by simp) w_4
         have HCALL := Lib.hid (rowCall HJS.out HY.out HBR.out.1 HBR.out.2.1 HBR.out.2.2.1 HBR.out.2.2.2.1 HBR.out.2.2.2.2.1 HBR.out.2.2.2.2.2.1 (HM.out.on HBB.out) (HJS.out _ _ _ HJR.out (rowSt.of_below HBB.out)) hrd (by simp) HSH.out (n := 5) rfl)
         clear hba hrd
         refine oneH 13 (by rfl) (by kernel_rfl) (fun K hK => ?_)
         gi_wp2_with fail
         refine hK _ _ (fun _ => HCS.out _ HFF.out) ?_
         clear hK K
         refine oneH 14 (by rfl) (by kernel_rfl) (fun K hK => ?_)
         gi_wp2_with (gi_at_call 46; refine HCALL.out.mono ?_; rintro e w6 ⟨⟨u, rfl⟩, hM6, hJ6, hk6⟩)
         have HM6 := Lib.hid hM6
         have HJ6 := Lib.hid hJ6
         have HK6 := Lib.hid hk6
         refine hK _ _ (fun _ => HCS.out _ (HK6.out.blk HFF.out (by have h1 := HBR.out.2.2.2.2.2.2; have h2 := HM.out.ob.lt; omega) (by decide) (by decide))) ?_
         clear hM6 hJ6 hk6 HCALL hK K
         refine doneH (by kernel_rfl) ?_
         gi_wp2_with fail
         exact ⟨⟨k + 1, hlt, by go_num, HM6, HJ6⟩, by simp [intOf]; omega⟩
        case neg =>
         obtain rfl : ns = k := by omega
         have hlz : ¬ ((ns : Int) < (ns : Int)) := by omega
         have hje := HJ.out
         rw [loop_end r.ss Tt.seRow _ ns (by rw [HNS.out]; exact Nat.le_refl _)] at hje
         have HJ0 := Lib.hid hje
         have HM0 := HM
         clear hje HJ HM
         have c4 : wr.cell? ⟨br, 4, none⟩ = some (.int .i64 ev) := HM0.out.rb.cell 4
         obtain ⟨wq4, rfl⟩ : ∃ x, x = wr := ⟨_, rfl⟩
         by_cases h0 : ev = 0
         case pos =>
          subst h0
          have hz0 : ((0 : Int) != 0) = false := by decide
          have hj := HJ0.out
          rw [HEV.out, show Tt.endRow 0 = [] from rfl] at hj
          have HJ1 := Lib.hid hj
          clear hj
          gi_wp2_with fail
          go_end0
          exact ⟨⟨_, rfl⟩, HJ1.out⟩
         case neg =>
          have hn0 : (ev != 0) = true := by simpa using h0
          obtain ⟨m2, rfl⟩ : ∃ m : Nat, ev = m := ⟨ev.toNat, by have := HOK.out.r0; have := HEV.out; omega⟩
          have hm2l : m2 < 13 := by have := HOK.out.r1; have := HEV.out; omega
          obtain ⟨y, hy⟩ : ∃ y, Tt.wd Tt.errs m2 = y := ⟨_, rfl⟩
          have hrow : Tt.endRow r.err = [[[115, 116, 111, 112, 112, 101, 100], y]] := by unfold Tt.endRow; rw [HEV.out, if_neg h0, Int.toNat_natCast, hy]
          have hj := HJ0.out
          rw [hrow] at hj
          have HJR := Lib.hid hj
          have HSH : Hid (Tt.Short [[115, 116, 111, 112, 112, 101, 100], y]) := ⟨by simp, by simp, fun s hs => by
           simp only [List.mem_cons, List.not_mem_nil, or_false] at hs
           rcases hs with rfl | rfl
           ·decide
           ·rw [<- hy]
            have : (Tt.wd Tt.errs m2).length <= 10 := Tt.wd_len Tt.errs_len
            omega⟩
          have HC : Hid (∀ W', Calls Tryd.prog 54 #[.int .i64 (m2 : Int)] W' (Gives (S y) W')) := fun W' => by
           have h := errWord_any m2 hm2l W'
           rw [<- Tt.wd_at (t := Tt.errs) hm2l, hy] at h; exact h
          clear hj hrow hy h0
          gi_wp2_with fail
          refine (callsIn_wide.2 (HC.out _)).mono ?_
          rintro e w2 ⟨rfl, b2⟩
          have hba : Below w2.heap.size w2 (w2.alloc (.cells #[S [115, 116, 111, 112, 112, 101, 100], S y] 9)) := (Below.refl _ _).alloc (Nat.le_refl _) _
          have HB3 := Lib.hid (below5 b2 hba)
          have hrd := rd_built [[115, 116, 111, 112, 112, 101, 100], y] (by simp) w2
          have HCALL := Lib.hid (rowCall HJS.out HY.out HBR.out.1 HBR.out.2.1 HBR.out.2.2.1 HBR.out.2.2.2.1 HBR.out.2.2.2.2.1 HBR.out.2.2.2.2.2.1 (HM0.out.on HB3.out) (HJS.out _ _ _ HJR.out (rowSt.of_below HB3.out)) hrd (by simp) HSH.out (n := 2) rfl)
          clear b2 hba hrd HC
          gi_wp2_with fail
          refine HCALL.out.mono ?_
          rintro e w6 ⟨⟨u, rfl⟩, hM6, hJ6, _⟩
          have HJ6 := Lib.hid hJ6
          clear hM6 hJ6 HCALL
          gi_wp2_with fail
          go_end0
          exact ⟨⟨_, rfl⟩, [], rfl, HJ6.out⟩
end Go.Proofs.YtjhibbjafjhhjaaDoor
