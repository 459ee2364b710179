/- Reports in words, as the document has them. -/
import Derived.Test.YtjhibbjafjhhjaaDoorKTtF
import Derived.Test.YtjhibbjafjhhjaaDoorKTyG
import Derived.Test.YtjhibbjafjhhjaaDoorKReg
namespace Go.Proofs.YtjhibbjafjhhjaaDoor
open Go.RowKit Go.Shelf
set_option maxRecDepth 100000
structure LxM (w : World) (rv : Array Value) (tb : Nat) (tc : Array Value) (tt : TypeId) (done : List (List UInt8)) (n : Nat) (v : Value) (A : World) : Prop where
 rb : Blk w.heap.size rv 30 A
 tab : Blk tb tc tt A
 row : Row (fun g => w.heap.size < g /\ g ≠ tb) 9 1 v n (done.map S) A
 below : Below w.heap.size w A
theorem LxM.on {w : World} {rv : Array Value} {tb : Nat} {tc : Array Value} {tt : TypeId} {done : List (List UInt8)} {n : Nat} {v : Value} {A B : World} (h : LxM w rv tb tc tt done n v A) (hb : Below A.heap.size A B) : LxM w rv tb tc tt done n v B :=
 ⟨h.rb.below hb, h.tab.below hb, h.row.below hb, below5 h.below hb⟩
theorem LxM.push {w : World} {rv : Array Value} {tb : Nat} {tc : Array Value} {tt : TypeId} {done : List (List UInt8)} {n n' : Nat} {v v' : Value} {y : List UInt8} {A B : World} (h : LxM w rv tb tc tt done n v A)
  (hrow : Row (fun g => w.heap.size < g /\ g ≠ tb) 9 1 v' n' ((done ++ [y]).map S) B) (hg : A.grownBy B v.ownBlock) : LxM w rv tb tc tt (done ++ [y]) n' v' B :=
 ⟨(hg.block _ h.rb.lt (fun e => by have := h.row.2 _ e.symm; omega)).trans h.rb, (hg.block _ h.tab.lt (fun e => (h.row.2 _ e.symm).2 rfl)).trans h.tab, hrow,
  h.below.grown hg h.below.size (fun g hg => by have := h.row.2 g hg; omega)⟩
theorem Row.own_lt {R e sz v n xs} {W : World} (h : Row R e sz v n xs W) {g : Nat} (hg : v.ownBlock = some g) : g < W.heap.size := by
 obtain ⟨c, f, h'⟩ := h.typ hg
 exact (Array.getElem?_eq_some_iff.1 h').1
theorem LxM.retab {w : World} {rv : Array Value} {tb : Nat} {tc : Array Value} {tt : TypeId} {done : List (List UInt8)} {n : Nat} {v : Value} {A : World} (h : LxM w rv tb tc tt done n v A) (tc' : Array Value) (tt' : TypeId) :
  LxM w rv A.heap.size tc' tt' done n v (A.alloc (.cells tc' tt')) :=
 ⟨h.rb.alloc _, Blk.new A tc' tt', ⟨(h.row.alloc _).1, fun g hg => ⟨(h.row.2 g hg).1, fun e => by have := h.row.own_lt hg; omega⟩⟩, h.below.alloc h.below.size _⟩
theorem Blk.rowKeep {b : Nat} {cs : Array Value} {t e : TypeId} {R : Nat -> Prop} {sz n : Nat} {v : Value} {xs : List Value} {A B : World} (h : Blk b cs t A) (hrow : Row R e sz v n xs A) (hg : A.grownBy B v.ownBlock) (hne : t ≠ e) : Blk b cs t B :=
 (hg.block _ h.lt (fun eb => by
  obtain ⟨c, f, h'⟩ := hrow.typ eb.symm
  unfold Blk at h
  rw [h] at h'; cases h'; exact hne rfl)).trans h
def RLinesOf (r : Tt.Rep) (w : World) (e : Ending) (w' : World) : Prop := ∃ v, e = .returned v /\ Rd v (Tt.lines r) w' /\ Below w.heap.size w w'
theorem map_take_next {α : Type} (l : List α) (f : α -> List UInt8) (k : Nat) (h : k < l.length) : (l.take (k + 1)).map f = (l.take k).map f ++ [f l[k]] := by
 rw [List.take_succ_eq_append_getElem h, List.map_append]; rfl
set_option maxHeartbeats 16000000 in
theorem refLines_any (ve vf vg vs : Value) (r : Tt.Rep) (w : World) (hR : RepRd ve vf vg vs r w) (hok : r.Ok) :
  Calls Tryd.prog 9 #[.agg #[ve, vf, vg, vs, .int .i64 r.err]] w (RLinesOf r w) := by
 obtain ⟨oe, ce, rfl⟩ := hR.e.form
 obtain ⟨of, cf, rfl⟩ := hR.f.form
 obtain ⟨og, cg, rfl⟩ := hR.g.form
 obtain ⟨os, cs, rfl⟩ := hR.s.form
 have HR := Lib.hid hR
 have HOK := Lib.hid hok
 obtain ⟨ne, hne⟩ : ∃ n, r.es.length = n := ⟨_, rfl⟩
 obtain ⟨nf, hnf⟩ : ∃ n, r.fs.length = n := ⟨_, rfl⟩
 obtain ⟨ng, hng⟩ : ∃ n, r.gs.length = n := ⟨_, rfl⟩
 obtain ⟨ns, hns⟩ : ∃ n, r.ss.length = n := ⟨_, rfl⟩
 have ne1 : (ne : Int) <= 10 := by have := hok.el; omega
 have nf1 : (nf : Int) <= 10 := by have := hok.fl; omega
 have ng1 : (ng : Int) <= 10 := by have := hok.gl; omega
 have ns1 : (ns : Int) <= 10 := by have := hok.sl; omega
 obtain ⟨ev, hev⟩ : ∃ z, r.err = z := ⟨_, rfl⟩
 rw [hne, hnf, hng, hns] at HR
 rw [hne, hnf, hng, hns, hev]
 have HNE := Lib.hid hne
 have HNF := Lib.hid hnf
 have HNG := Lib.hid hng
 have HNS := Lib.hid hns
 have HEV := Lib.hid hev
 have hM0 : LxM w #[.slice oe ne ce, .slice of nf cf, .slice og ng cg, .slice os ns cs, .int .i64 ev] w.heap.size #[.slice oe ne ce, .slice of nf cf, .slice og ng cg, .slice os ns cs, .int .i64 ev] 30 [] 0 (.slice none 0 0) (w.alloc (.cells #[.slice oe ne ce, .slice of nf cf, .slice og ng cg, .slice os ns cs, .int .i64 ev] 30)) :=
  ⟨Blk.new _ _ _, Blk.new _ _ _, Row.nil _ _ _ _, (Below.refl _ _).alloc (Nat.le_refl _) _⟩
 have HM := Lib.hid hM0
 have c0 : (w.alloc (.cells #[.slice oe ne ce, .slice of nf cf, .slice og ng cg, .slice os ns cs, .int .i64 ev] 30)).cell? ⟨w.heap.size, 0, none⟩ = some (.slice oe ne ce) := hM0.rb.cell 0
 obtain ⟨pl, hpl⟩ : ∃ n : Nat, 0 = n := ⟨_, rfl⟩
 clear hM0 hR hok hne hnf hng hns hev hpl pl
 refine (callsIn_wide (n := 0)).1 ?_
 refine callsIn_of_wp Tryd.func9 rfl trivial ?_ rfl
 simp only [Tryd.ntmps9, List.size_toArray, List.length_cons, List.length_nil, Nat.reduceAdd, Nat.reduceSub, Array.replicate_succ, Array.replicate_zero, List.push_toArray, List.append_toArray, List.nil_append, List.cons_append]
 gi_wp2_with fail
 obtain ⟨B, hB⟩ : ∃ B, w.heap.size = B := ⟨_, rfl⟩
 have HB := Lib.hid hB
 obtain ⟨W0, hW0⟩ : ∃ x, w.alloc (.cells #[.slice oe ne ce, .slice of nf cf, .slice og ng cg, .slice os ns cs, .int .i64 ev] 30) = x := ⟨_, rfl⟩
 rw [hW0] at HM c0 ⊢
 rw [hB] at c0 ⊢
 have HM1 : Hid (LxM w #[.slice oe ne ce, .slice of nf cf, .slice og ng cg, .slice os ns cs, .int .i64 ev] B #[.slice oe ne ce, .slice of nf cf, .slice og ng cg, .slice os ns cs, .int .i64 ev] 30 [] 0 (.slice none 0 0) W0) := by show LxM _ _ _ _ _ _ _ _ _; rw [<- hB]; exact HM.out
 have HM := HM1
 clear hW0 hB c0 HM1
 gi_loopw [3, 4] (fun v3 vi A => ∃ (k : Nat) (a3 : Option Addr) (c3 : Nat), k <= ne /\ vi = .int .i64 k /\ v3 = .slice a3 (k) c3 /\ Hid (LxM w #[.slice oe ne ce, .slice of nf cf, .slice og ng cg, .slice os ns cs, .int .i64 ev] B #[.slice oe ne ce, .slice of nf cf, .slice og ng cg, .slice os ns cs, .int .i64 ev] 30 ([] ++ (r.es.take k).map fun x => Tt.jn (Tt.erRow x)) (k) v3 A)) (fun _ vi _ => ne - (intOf vi).toNat)
 case atStart =>
  exact ⟨0, _, _, Nat.zero_le _, rfl, rfl, by first | exact HM | (rw [List.take_zero, List.map_nil, List.append_nil]; exact HM)⟩
 case round =>
  obtain ⟨k, a3, c3, hk, rfl, rfl, HL⟩ := hrel
  clear HM
  have c0 : wr.cell? ⟨B, 0, none⟩ = some (.slice oe ne ce) := by rw [<- HB.out]; exact HL.out.rb.cell 0
  by_cases hlt : k < ne
  case pos =>
   have hlz : (k : Int) < (ne : Int) := by omega
   have hlen : k < r.es.length := by rw [HNE.out]; exact hlt
   obtain ⟨cs', z, henc, _, ⟨a, rfl, hz⟩, e0, e1⟩ := (HR.out.below HL.out.below).e.at (by decide) k hlen
   obtain ⟨x, hx⟩ : ∃ x, r.es[k] = x := ⟨_, rfl⟩
   have hxok := HOK.out.e _ (List.getElem_mem hlen)
   have hnext := map_take_next r.es (fun x => Tt.jn (Tt.erRow x)) k hlen
   rw [hx] at henc hxok
   simp only [hx] at hnext
   have HNX := Lib.hid hnext
   clear hx hnext
   obtain ⟨b, rfl, hbk⟩ := henc
   simp only [List.getElem?_cons_zero] at e0
   rw [Nat.mul_one] at hz
   subst hz
   obtain ⟨m1, hm1⟩ : ∃ m : Nat, x.line = m := ⟨x.line.toNat, by have := hxok.l0; omega⟩
   obtain ⟨m2, hm2⟩ : ∃ m : Nat, x.err = m := ⟨x.err.toNat, by have := hxok.e0; omega⟩
   have hm2l : m2 < 13 := by have := hxok.e1; omega
   have hm1l : m1 < 9223372036854775808 := by have := hxok.l1; omega
   have hpl : x.path.length <= 50 := hxok.p
   obtain ⟨p, hp⟩ : ∃ p, x.path = p := ⟨_, rfl⟩
   obtain ⟨y, hy⟩ : ∃ y, Tt.errText p m1 (Tt.wd Tt.errs m2) = y := ⟨_, rfl⟩
   rw [hm1, hm2, hp] at hbk
   rw [hp] at hpl
   have hyl : y.length <= 5000000 := by
    have h := hxok.short.2.2 y (by unfold Tt.erRow; rw [hm1, hm2, Int.toNat_natCast, Int.toNat_natCast, hp, hy]; simp)
    exact h
   have HY : Hid (Tt.jn (Tt.erRow x) = [101, 114, 114, 111, 114, 32] ++ y) := by
    show _ = _
    unfold Tt.jn Tt.erRow
    rw [hm1, hm2, Int.toNat_natCast, Int.toNat_natCast, hp, hy]; simp [Lib.join_cons, Lib.joinTail]
   have HC : Hid (∀ W', Calls Tryd.prog 24 #[.agg #[S p, .int .i64 (m1 : Int), .int .i64 (m2 : Int)]] W' (Gives (S y) W')) := fun W' => by
    have h := refFault_any p m1 m2 hm2l W' hpl hm1l
    rw [<- Tt.wd_at (t := Tt.errs) hm2l, hy] at h; exact h
   have HCS : Hid (∀ W', Blk b #[S p, .int .i64 (m1 : Int), .int .i64 (m2 : Int)] 32 W' -> Cs [(⟨b, 0, none⟩, S p), (⟨b, 1, none⟩, .int .i64 (m1 : Int)), (⟨b, 2, none⟩, .int .i64 (m2 : Int))] W') := fun W' h => ⟨h.cell 0, h.cell 1, h.cell 2, trivial⟩
   have HBK := Lib.hid hbk
   clear hbk hxok hm1 hm2 hy hp e1
   gi_wp2_with fail
   refine drawnH [4, 8, 12, 14, 15, 16, 17] (Cs [(⟨b, 0, none⟩, S p), (⟨b, 1, none⟩, .int .i64 (m1 : Int)), (⟨b, 2, none⟩, .int .i64 (m2 : Int))]) 19 rfl (by kernel_rfl) ?_
   intro w' hw'
   have hb : Below wr.heap.size wr w' := by subst hw'; exact (Below.refl _ _).drew
   have hS := HCS.out w' (HBK.out.below hb)
   have HB0 := Lib.hid hb
   have HBK0 := Lib.hid (HBK.out.below hb)
   clear hw' hb e0 c0
   refine tP 0 ?qev0 (fun w1 _ => ?qey0) ?_
   case qey0 => (go_simp; try first | rfl | (rw [if_pos (by omega)]) | (rw [if_neg (by omega)]) | (rw [if_neg (by simp; omega)]) | (split <;> first | (exfalso; omega) | rfl))
   refine tP 1 ?qev1 (fun w1 _ => ?qey1) ?_
   case qey1 => (go_simp; try first | rfl | (rw [if_pos (by omega)]) | (rw [if_neg (by omega)]) | (rw [if_neg (by simp; omega)]) | (split <;> first | (exfalso; omega) | rfl))
   refine tP 2 ?qev2 (fun w1 _ => ?qey2) ?_
   case qey2 => (go_simp; try first | rfl | (rw [if_pos (by omega)]) | (rw [if_neg (by omega)]) | (rw [if_neg (by simp; omega)]) | (split <;> first | (exfalso; omega) | rfl))
   refine tP 3 ?qev3 (fun w1 _ => ?qey3) ?_
   case qey3 => (go_simp; try first | rfl | (rw [if_pos (by omega)]) | (rw [if_neg (by omega)]) | (rw [if_neg (by simp; omega)]) | (split <;> first | (exfalso; omega) | rfl))
   refine tP 5 ?qev5 (fun w1 _ => ?qey5) ?_
   case qey5 => (go_simp; try first | rfl | (rw [if_pos (by omega)]) | (rw [if_neg (by omega)]) | (rw [if_neg (by simp; omega)]) | (split <;> first | (exfalso; omega) | rfl))
   refine tP 6 ?qev6 (fun w1 _ => ?qey6) ?_
   case qey6 => (go_simp; try first | rfl | (rw [if_pos (by omega)]) | (rw [if_neg (by omega)]) | (rw [if_neg (by simp; omega)]) | (split <;> first | (exfalso; omega) | rfl))
   refine tP 7 ?qev7 (fun w1 _ => ?qey7) ?_
   case qey7 => (go_simp; try first | rfl | (rw [if_pos (by omega)]) | (rw [if_neg (by omega)]) | (rw [if_neg (by simp; omega)]) | (split <;> first | (exfalso; omega) | rfl))
   refine tP 9 ?qev9 (fun w1 _ => ?qey9) ?_
   case qey9 => (go_simp; try first | rfl | (rw [if_pos (by omega)]) | (rw [if_neg (by omega)]) | (rw [if_neg (by simp; omega)]) | (split <;> first | (exfalso; omega) | rfl))
   refine tP 10 ?qev10 (fun w1 _ => ?qey10) ?_
   case qey10 => (go_simp; try first | rfl | (rw [if_pos (by omega)]) | (rw [if_neg (by omega)]) | (rw [if_neg (by simp; omega)]) | (split <;> first | (exfalso; omega) | rfl))
   refine tP 11 ?qev11 (fun w1 _ => ?qey11) ?_
   case qey11 => (go_simp; try first | rfl | (rw [if_pos (by omega)]) | (rw [if_neg (by omega)]) | (rw [if_neg (by simp; omega)]) | (split <;> first | (exfalso; omega) | rfl))
   simp only [Act.put, List.setIfInBounds_toArray, List.set_cons_succ, List.set_cons_zero]
   refine tH 4 ?qev4 hS (fun w1 ⟨x0, x1, x2, _⟩ => ?qey4) ?_
   case qey4 => (go_simp; try first | rfl | (rw [if_pos (by omega)]) | (rw [if_neg (by omega)]) | (rw [if_neg (by simp; omega)]) | (split <;> first | (exfalso; omega) | rfl))
   refine tH 8 ?qev8 hS (fun w1 ⟨x0, x1, x2, _⟩ => ?qey8) ?_
   case qey8 => (go_simp; try first | rfl | (rw [if_pos (by omega)]) | (rw [if_neg (by omega)]) | (rw [if_neg (by simp; omega)]) | (split <;> first | (exfalso; omega) | rfl))
   refine tH 12 ?qev12 hS (fun w1 ⟨x0, x1, x2, _⟩ => ?qey12) ?_
   case qey12 => (go_simp; try first | rfl | (rw [if_pos (by omega)]) | (rw [if_neg (by omega)]) | (rw [if_neg (by simp; omega)]) | (split <;> first | (exfalso; omega) | rfl))
   simp only [Act.put, List.setIfInBounds_toArray, List.set_cons_succ, List.set_cons_zero]
   clear hS
   refine oneH 13 (by rfl) (by kernel_rfl) (fun K hK => ?_)
   gi_wp2_with fail
   refine hK _ _ (fun h => absurd h (by decide)) ?_
   clear hK K
   refine oneH 14 (by rfl) (by kernel_rfl) (fun K hK => ?_)
   gi_wp2_with (gi_at_call 24; refine (callsIn_wide.2 (HC.out w')).mono ?_; rintro e w2 ⟨rfl, b2⟩)
   have HB2 := Lib.hid (below5 HB0.out b2)
   have HBK2 := Lib.hid (HBK0.out.below b2)
   refine hK _ _ (fun _ => HCS.out _ HBK2.out) ?_
   have hS := HCS.out _ HBK2.out
   clear hK K b2 HC
   refine tH 15 ?qe2v15 hS (fun w1 ⟨x0, x1, x2, _⟩ => ?qe2y15) ?_
   case qe2y15 => (go_simp; try first | rfl | (rw [if_pos (by omega)]) | (rw [if_neg (by omega)]) | (rw [if_neg (by simp; omega)]) | (split <;> first | (exfalso; omega) | rfl))
   simp only [Act.put, List.setIfInBounds_toArray, List.set_cons_succ, List.set_cons_zero]
   clear hS
   rw [append_S]
   have hba : Below w2.heap.size w2 (w2.alloc (.cells #[S ([101, 114, 114, 111, 114, 32] ++ y)] 9)) := (Below.refl _ _).alloc (Nat.le_refl _) _
   have HLB := Lib.hid (HL.out.on (below5 HB2.out hba))
   have HSZ : Hid ((fun g => w.heap.size < g /\ g ≠ B) (w2.alloc (.cells #[S ([101, 114, 114, 111, 114, 32] ++ y)] 9)).heap.size) := by
    have h1 := HLB.out.rb.lt
    have h2 := HLB.out.tab.lt
    exact ⟨h1, fun e => by rw [<- e] at h2; exact Nat.lt_irrefl _ h2⟩
   clear hba
   refine oneH 16 (by rfl) (by kernel_rfl) (fun K hK => ?_)
   gi_wp2_with fail
   refine hK _ _ (fun _ => HCS.out _ (HBK2.out.alloc _)) ?_
   clear hK K
   refine oneH 17 (by rfl) (by kernel_rfl) (fun K hK => ?_)
   gi_wp2_with (gi_at_builtin; refine append_rd (fun g => w.heap.size < g /\ g ≠ B) rfl _ _ _ Tryd.underlying35 rfl _ (k) _ (by rfl) HLB.out.row _ [([101, 114, 114, 111, 114, 32] ++ y)] (by rfl) (rd_row1 _ _) (by simp; omega) HSZ.out ?_; intro v' w' hrow' hgr)
   obtain ⟨a4, c4, rfl⟩ := hrow'.form
   have HL2 := Lib.hid (HLB.out.push hrow' hgr)
   have HCF := Lib.hid (HCS.out w' ((HBK2.out.alloc _).rowKeep HLB.out.row hgr (by decide)))
   refine hK _ _ (fun _ => HCF.out) ?_
   clear hK K hrow' hgr HLB HSZ
   refine oneH 18 (by rfl) (by kernel_rfl) (fun K hK => ?_)
   gi_wp2_with fail
   refine hK _ _ (fun h => absurd h (by decide)) ?_
   clear hK K
   refine doneH (by kernel_rfl) ?_
   gi_wp2_with fail
   exact ⟨⟨k + 1, a4, c4, hlt, by go_num, rfl, by rw [HNX.out, <- List.append_assoc, HY.out]; exact HL2⟩, by simp [intOf]; omega⟩
  case neg =>
   obtain rfl : ne = k := by omega
   have hlz : ¬ ((ne : Int) < (ne : Int)) := by omega
   have hl := HL.out
   rw [List.take_of_length_le (by rw [HNE.out]; exact Nat.le_refl _)] at hl
   have HM := Lib.hid hl
   clear hl HL
   gi_wp2_with fail
   obtain ⟨tb1, htb⟩ : ∃ b, wr.heap.size = b := ⟨_, rfl⟩
   have hret := HM.out.retab (Tt.flaws.map S).toArray 9
   rw [htb] at hret ⊢
   have HM2 := Lib.hid hret
   clear htb hret HM
   obtain ⟨Wt, hWt⟩ : ∃ x, wr.alloc (.cells (Tt.flaws.map S).toArray 9) = x := ⟨_, rfl⟩
   have hWt' : wr.alloc (.cells #[.string ⟨#[]⟩, .string ⟨#[110, 111, 115, 111, 97]⟩, .string ⟨#[109, 97, 110, 121, 115, 111, 97]⟩, .string ⟨#[110, 111, 110, 115]⟩, .string ⟨#[115, 116, 114, 97, 110, 103, 101]⟩, .string ⟨#[109, 105, 120, 101, 100]⟩, .string ⟨#[109, 97, 110, 121, 110, 97, 109, 101]⟩, .string ⟨#[104, 105, 100, 100, 101, 110]⟩, .string ⟨#[99, 111, 118, 101, 114, 101, 100]⟩, .string ⟨#[119, 105, 108, 100, 110, 115]⟩] 9) = Wt := hWt
   rw [hWt] at HM2
   rw [hWt']
   have HM := HM2
   clear HM2 hWt hWt'
   gi_loopw [3, 7] (fun v3 vi A => ∃ (k : Nat) (a3 : Option Addr) (c3 : Nat), k <= nf /\ vi = .int .i64 k /\ v3 = .slice a3 ((ne) + k) c3 /\ Hid (LxM w #[.slice oe ne ce, .slice of nf cf, .slice og ng cg, .slice os ns cs, .int .i64 ev] tb1 (Tt.flaws.map S).toArray 9 ((r.es.map fun x => Tt.jn (Tt.erRow x)) ++ (r.fs.take k).map fun x => Tt.jn (Tt.flRow x)) ((ne) + k) v3 A)) (fun _ vi _ => nf - (intOf vi).toNat)
   case atStart =>
    exact ⟨0, _, _, Nat.zero_le _, rfl, rfl, by first | exact HM | (rw [List.take_zero, List.map_nil, List.append_nil]; exact HM)⟩
   case round =>
    obtain ⟨k, a3, c3, hk, rfl, rfl, HL⟩ := hrel
    clear HM
    have c0 : wr.cell? ⟨B, 1, none⟩ = some (.slice of nf cf) := by rw [<- HB.out]; exact HL.out.rb.cell 1
    by_cases hlt : k < nf
    case pos =>
     have hlz : (k : Int) < (nf : Int) := by omega
     have hlen : k < r.fs.length := by rw [HNF.out]; exact hlt
     obtain ⟨cs', z, henc, _, ⟨a, rfl, hz⟩, e0, e1⟩ := (HR.out.below HL.out.below).f.at (by decide) k hlen
     obtain ⟨x, hx⟩ : ∃ x, r.fs[k] = x := ⟨_, rfl⟩
     have hxok := HOK.out.f _ (List.getElem_mem hlen)
     have hnext := map_take_next r.fs (fun x => Tt.jn (Tt.flRow x)) k hlen
     rw [hx] at henc hxok
     simp only [hx] at hnext
     have HNX := Lib.hid hnext
     clear hx hnext
     obtain ⟨v1, rfl, h1⟩ := henc
     have e_1 := e1 1 (by decide) (by decide)
     have e_2 := e1 2 (by decide) (by decide)
     simp only [List.getElem?_cons_zero, List.getElem?_cons_succ] at e0 e_1 e_2
     have hz' : a.add (k * 3) = z := hz.symm
     clear hz e1
     obtain ⟨m0, hm0⟩ : ∃ m : Nat, x.kind = m := ⟨x.kind.toNat, by have := hxok.k0; omega⟩
     have hml0 : m0 <= 9 := by have := hxok.k1; omega
     rw [hm0] at e0
     obtain ⟨p1, c1, rfl, _, _⟩ := h1.form
     obtain ⟨l1, hl1⟩ : ∃ n, x.owner.length = n := ⟨_, rfl⟩
     rw [hl1] at e_1 h1
     obtain ⟨m2, hm2⟩ : ∃ m : Nat, x.type = m := ⟨x.type.toNat, by have := hxok.t0; omega⟩
     have hml2 : m2 <= 65535 := by have := hxok.t1; omega
     rw [hm2] at e_2
     have hk2 : m0 < 10 := by omega
     obtain ⟨y0, hy0⟩ : ∃ y, Tt.wd Tt.flaws m0 = y := ⟨_, rfl⟩
     have hyl0 : y0.length <= 5000000 := Nat.le_trans (show y0.length <= 20 by rw [<- hy0]; exact Tt.wd_len Tt.flaws_len) (by decide)
     obtain ⟨y1, hy1⟩ : ∃ y, Nm.text x.owner = y := ⟨_, rfl⟩
     have hyl1 : y1.length <= 5000000 := by rw [<- hy1]; exact hxok.n.text_len
     have H1 : Hid (∀ W', Below wr.heap.size wr W' -> Calls Tryd.prog 25 #[.slice p1 l1 c1] W' (Gives (S y1) W')) := fun W' hW => by
      have h := refNameText_any _ x.owner W' (h1.below hW) hxok.n
      rw [hy1] at h; exact h
     obtain ⟨y2, hy2⟩ : ∃ y, Ty.text m2 = y := ⟨_, rfl⟩
     have hyl2 : y2.length <= 5000000 := by rw [<- hy2]; exact Nat.le_trans (Ty.text_len m2 (by omega)) (by decide)
     have H2 : Hid (∀ W', Below wr.heap.size wr W' -> Calls Tryd.prog 19 #[.int .i64 (m2 : Int)] W' (Gives (S y2) W')) := fun W' hW => by
      have h := refTText_any m2 (by omega) W'
      rw [hy2] at h; exact h
     obtain ⟨yl, hyl⟩ : ∃ y, (([102, 108, 97, 119, 32] ++ y0) ++ [32] ++ y1) ++ [32] ++ y2 = y := ⟨_, rfl⟩
     have HY : Hid (Tt.jn (Tt.flRow x) = yl) := by
      show _ = _
      unfold Tt.jn Tt.flRow
      rw [hm0, hm2, Int.toNat_natCast, Int.toNat_natCast, hy0, hy1, hy2, <- hyl]; simp [Lib.join_cons, Lib.joinTail]
     have HYL := Lib.hid hyl
     have HY0 := Lib.hid hy0
     have HMK := Lib.hid hk2
     clear hm0 hl1 h1 hm2 hy0 hy1 hy2 hyl hxok
     obtain ⟨fb, hfb⟩ : ∃ b, wr.heap.size = b := ⟨_, rfl⟩
     have hfb0 := Blk.new wr #[.int .i64 (m0 : Int), .slice p1 l1 c1, .int .i64 (m2 : Int)] 41
     have hfa : Below wr.heap.size wr (wr.alloc (.cells #[.int .i64 (m0 : Int), .slice p1 l1 c1, .int .i64 (m2 : Int)] 41)) := (Below.refl _ _).alloc (Nat.le_refl _) _
     rw [hfb] at hfb0
     obtain ⟨Wf, hWf⟩ : ∃ x, wr.alloc (.cells #[.int .i64 (m0 : Int), .slice p1 l1 c1, .int .i64 (m2 : Int)] 41) = x := ⟨_, rfl⟩
     rw [hWf] at hfb0 hfa
     have HBf := Lib.hid hfa
     have HFf : Hid (Blk fb #[.int .i64 (m0 : Int), .slice p1 l1 c1, .int .i64 (m2 : Int)] 41 Wf /\ Blk tb1 (Tt.flaws.map S).toArray 9 Wf) := ⟨hfb0, (HL.out.on hfa).tab⟩
     have HW := Lib.hid hWf
     have HFB := Lib.hid hfb
     clear hfb hfb0 hfa hWf
     gi_wp2_with fail
     rw [HW.out, HFB.out]
     clear e0 e_1 e_2 hz' c0
     have HCS : Hid (∀ W', Blk fb #[.int .i64 (m0 : Int), .slice p1 l1 c1, .int .i64 (m2 : Int)] 41 W' /\ Blk tb1 (Tt.flaws.map S).toArray 9 W' -> Cs [(⟨fb, 0, none⟩, Value.int .i64 (m0 : Int)), (⟨fb, 1, none⟩, Value.slice p1 l1 c1), (⟨fb, 2, none⟩, Value.int .i64 (m2 : Int)), (⟨tb1, m0, none⟩, S y0)] W') := fun W' h => ⟨h.1.cell 0, h.1.cell 1, h.1.cell 2, by
      rw [h.2.cell m0]
      have h1 := HY0.out
      unfold Tt.wd at h1
      have h2 : m0 < Tt.flaws.length := HMK.out
      rw [List.getElem?_eq_getElem h2, Option.getD_some] at h1
      simp [h2, h1], trivial⟩
     refine drawnH [3, 5, 6, 7, 9, 10, 11, 12, 14, 15, 16, 17, 18] (Cs [(⟨fb, 0, none⟩, Value.int .i64 (m0 : Int)), (⟨fb, 1, none⟩, Value.slice p1 l1 c1), (⟨fb, 2, none⟩, Value.int .i64 (m2 : Int)), (⟨tb1, m0, none⟩, S y0)]) 20 rfl (by kernel_rfl) ?_
     intro w' hw'
     have hb : Below Wf.heap.size Wf w' := by subst hw'; exact (Below.refl _ _).drew
     have HB_0 := Lib.hid (below5 HBf.out hb)
     have HF_0 : Hid (Blk fb #[.int .i64 (m0 : Int), .slice p1 l1 c1, .int .i64 (m2 : Int)] 41 w' /\ Blk tb1 (Tt.flaws.map S).toArray 9 w') := ⟨HFf.out.1.below hb, HFf.out.2.below hb⟩
     have hS := HCS.out w' HF_0.out
     clear hw' hb
     refine tP 0 ?qfv0 (fun w1 _ => ?qfy0) ?_
     case qfy0 => (go_simp; try first | rfl | (rw [if_pos (by omega)]) | (rw [if_neg (by omega)]) | (rw [if_neg (by simp; omega)]) | (split <;> first | (exfalso; omega) | rfl))
     refine tP 1 ?qfv1 (fun w1 _ => ?qfy1) ?_
     case qfy1 => (go_simp; try first | rfl | (rw [if_pos (by omega)]) | (rw [if_neg (by omega)]) | (rw [if_neg (by simp; omega)]) | (split <;> first | (exfalso; omega) | rfl))
     refine tP 2 ?qfv2 (fun w1 _ => ?qfy2) ?_
     case qfy2 => (go_simp; try first | rfl | (rw [if_pos (by omega)]) | (rw [if_neg (by omega)]) | (rw [if_neg (by simp; omega)]) | (split <;> first | (exfalso; omega) | rfl))
     refine tP 8 ?qfv8 (fun w1 _ => ?qfy8) ?_
     case qfy8 => (go_simp; try first | rfl | (rw [if_pos (by omega)]) | (rw [if_neg (by omega)]) | (rw [if_neg (by simp; omega)]) | (split <;> first | (exfalso; omega) | rfl))
     refine tP 13 ?qfv13 (fun w1 _ => ?qfy13) ?_
     case qfy13 => (go_simp; try first | rfl | (rw [if_pos (by omega)]) | (rw [if_neg (by omega)]) | (rw [if_neg (by simp; omega)]) | (split <;> first | (exfalso; omega) | rfl))
     simp only [Act.put, List.setIfInBounds_toArray, List.set_cons_succ, List.set_cons_zero]
     refine tH 3 ?qfv3 hS (fun w1 ⟨x0, x1, x2, x3, _⟩ => ?qfy3) ?_
     case qfy3 => (go_simp; try first | rfl | (rw [if_pos (by omega)]) | (rw [if_neg (by omega)]) | (rw [if_neg (by simp; omega)]) | (split <;> first | (exfalso; omega) | rfl))
     simp only [Act.put, List.setIfInBounds_toArray, List.set_cons_succ, List.set_cons_zero]
     refine tP 4 ?qfv4 (fun w1 _ => ?qfy4) ?_
     case qfy4 => (go_simp; try first | rfl | (rw [if_pos (by omega)]) | (rw [if_neg (by omega)]) | (rw [if_neg (by simp; omega)]) | (split <;> first | (exfalso; omega) | rfl))
     simp only [Act.put, List.setIfInBounds_toArray, List.set_cons_succ, List.set_cons_zero]
     refine tH 5 ?qfv5 hS (fun w1 ⟨x0, x1, x2, x3, _⟩ => ?qfy5) ?_
     case qfy5 => (go_simp; try first | rfl | (rw [if_pos (by omega)]) | (rw [if_neg (by omega)]) | (rw [if_neg (by simp; omega)]) | (split <;> first | (exfalso; omega) | rfl))
     simp only [Act.put, List.setIfInBounds_toArray, List.set_cons_succ, List.set_cons_zero]
     refine tH 6 ?qfv6 hS (fun w1 ⟨x0, x1, x2, x3, _⟩ => ?qfy6) ?_
     case qfy6 => (go_simp; try first | rfl | (rw [if_pos (by omega)]) | (rw [if_neg (by omega)]) | (rw [if_neg (by simp; omega)]) | (split <;> first | (exfalso; omega) | rfl))
     refine tH 7 ?qfv7 hS (fun w1 ⟨x0, x1, x2, x3, _⟩ => ?qfy7) ?_
     case qfy7 => (go_simp; try first | rfl | (rw [if_pos (by omega)]) | (rw [if_neg (by omega)]) | (rw [if_neg (by simp; omega)]) | (split <;> first | (exfalso; omega) | rfl))
     simp only [Act.put, List.setIfInBounds_toArray, List.set_cons_succ, List.set_cons_zero]
     refine tH 9 ?qfv9 hS (fun w1 ⟨x0, x1, x2, x3, _⟩ => ?qfy9) ?_
     case qfy9 => (go_simp; try first | rfl | (rw [if_pos (by omega)]) | (rw [if_neg (by omega)]) | (rw [if_neg (by simp; omega)]) | (split <;> first | (exfalso; omega) | rfl))
     refine tH 14 ?qfv14 hS (fun w1 ⟨x0, x1, x2, x3, _⟩ => ?qfy14) ?_
     case qfy14 => (go_simp; try first | rfl | (rw [if_pos (by omega)]) | (rw [if_neg (by omega)]) | (rw [if_neg (by simp; omega)]) | (split <;> first | (exfalso; omega) | rfl))
     simp only [Act.put, List.setIfInBounds_toArray, List.set_cons_succ, List.set_cons_zero]
     clear hS
     refine oneH 10 (by rfl) (by kernel_rfl) (fun K hK => ?_)
     gi_wp2_with (gi_at_call 25; refine (callsIn_wide.2 (H1.out _ HB_0.out)).mono ?_; rintro e w_1 ⟨rfl, b2⟩)
     have HB_1 := Lib.hid (below5 HB_0.out b2)
     have HF_1 : Hid (Blk fb #[.int .i64 (m0 : Int), .slice p1 l1 c1, .int .i64 (m2 : Int)] 41 w_1 /\ Blk tb1 (Tt.flaws.map S).toArray 9 w_1) := ⟨HF_0.out.1.below b2, HF_0.out.2.below b2⟩
     refine hK _ _ (fun _ => HCS.out _ HF_1.out) ?_
     have hS := HCS.out _ HF_1.out
     clear hK K b2
     refine tH 11 ?qfv11 hS (fun w1 ⟨x0, x1, x2, x3, _⟩ => ?qfy11) ?_
     case qfy11 => (go_simp; try first | rfl | (rw [if_pos (by omega)]) | (rw [if_neg (by omega)]) | (rw [if_neg (by simp; omega)]) | (split <;> first | (exfalso; omega) | rfl))
     refine tH 12 ?qfv12 hS (fun w1 ⟨x0, x1, x2, x3, _⟩ => ?qfy12) ?_
     case qfy12 => (go_simp; try first | rfl | (rw [if_pos (by omega)]) | (rw [if_neg (by omega)]) | (rw [if_neg (by simp; omega)]) | (split <;> first | (exfalso; omega) | rfl))
     simp only [Act.put, List.setIfInBounds_toArray, List.set_cons_succ, List.set_cons_zero]
     clear hS
     refine oneH 15 (by rfl) (by kernel_rfl) (fun K hK => ?_)
     gi_wp2_with (gi_at_call 19; refine (callsIn_wide.2 (H2.out _ HB_1.out)).mono ?_; rintro e w_2 ⟨rfl, b2⟩)
     have HB_2 := Lib.hid (below5 HB_1.out b2)
     have HF_2 : Hid (Blk fb #[.int .i64 (m0 : Int), .slice p1 l1 c1, .int .i64 (m2 : Int)] 41 w_2 /\ Blk tb1 (Tt.flaws.map S).toArray 9 w_2) := ⟨HF_1.out.1.below b2, HF_1.out.2.below b2⟩
     refine hK _ _ (fun _ => HCS.out _ HF_2.out) ?_
     have hS := HCS.out _ HF_2.out
     clear hK K b2
     refine tH 16 ?qfv16 hS (fun w1 ⟨x0, x1, x2, x3, _⟩ => ?qfy16) ?_
     case qfy16 => (go_simp; try first | rfl | (rw [if_pos (by omega)]) | (rw [if_neg (by omega)]) | (rw [if_neg (by simp; omega)]) | (split <;> first | (exfalso; omega) | rfl))
     simp only [Act.put, List.setIfInBounds_toArray, List.set_cons_succ, List.set_cons_zero]
     clear hS
     simp only [append_S]
     rw [HYL.out]
     have hba : Below w_2.heap.size w_2 (w_2.alloc (.cells #[S yl] 9)) := (Below.refl _ _).alloc (Nat.le_refl _) _
     have HLB := Lib.hid (HL.out.on (below5 HB_2.out hba))
     have HSZ : Hid ((fun g => w.heap.size < g /\ g ≠ tb1) (w_2.alloc (.cells #[S yl] 9)).heap.size) := by
      have h1 := HLB.out.rb.lt
      have h2 := HLB.out.tab.lt
      exact ⟨h1, fun e => by rw [<- e] at h2; exact Nat.lt_irrefl _ h2⟩
     clear hba
     refine oneH 17 (by rfl) (by kernel_rfl) (fun K hK => ?_)
     gi_wp2_with fail
     refine hK _ _ (fun _ => HCS.out _ ⟨HF_2.out.1.alloc _, HF_2.out.2.alloc _⟩) ?_
     clear hK K
     refine oneH 18 (by rfl) (by kernel_rfl) (fun K hK => ?_)
     gi_wp2_with (gi_at_builtin; refine append_rd (fun g => w.heap.size < g /\ g ≠ tb1) rfl _ _ _ Tryd.underlying35 rfl _ ((ne) + k) _ (by rfl) HLB.out.row _ [yl] (by rfl) (rd_row1 _ _) (by simp; omega) HSZ.out ?_; intro v' w' hrow' hgr)
     obtain ⟨a4, c4, rfl⟩ := hrow'.form
     have HL2 := Lib.hid (HLB.out.push hrow' hgr)
     have HCF := Lib.hid (HCS.out w' ⟨(HF_2.out.1.alloc _).rowKeep HLB.out.row hgr (by decide), HL2.out.tab⟩)
     refine hK _ _ (fun _ => HCF.out) ?_
     clear hK K hrow' hgr HLB HSZ
     refine oneH 19 (by rfl) (by kernel_rfl) (fun K hK => ?_)
     gi_wp2_with fail
     refine hK _ _ (fun h => absurd h (by decide)) ?_
     clear hK K
     refine doneH (by kernel_rfl) ?_
     gi_wp2_with fail
     exact ⟨⟨k + 1, a4, c4, hlt, by go_num, rfl, by rw [HNX.out, <- List.append_assoc, HY.out]; exact HL2⟩, by simp [intOf]; omega⟩
    case neg =>
     obtain rfl : nf = k := by omega
     have hlz : ¬ ((nf : Int) < (nf : Int)) := by omega
     have hl := HL.out
     rw [List.take_of_length_le (by rw [HNF.out]; exact Nat.le_refl _)] at hl
     have HM := Lib.hid hl
     clear hl HL
     gi_wp2_with fail
     obtain ⟨tb2, htb⟩ : ∃ b, wr.heap.size = b := ⟨_, rfl⟩
     have hret := HM.out.retab (Tt.edges.map S).toArray 9
     rw [htb] at hret ⊢
     have HM2 := Lib.hid hret
     clear htb hret HM
     obtain ⟨Wt, hWt⟩ : ∃ x, wr.alloc (.cells (Tt.edges.map S).toArray 9) = x := ⟨_, rfl⟩
     have hWt' : wr.alloc (.cells #[.string ⟨#[]⟩, .string ⟨#[110, 115, 100, 105, 102, 102, 101, 114, 115]⟩, .string ⟨#[103, 108, 117, 101, 100, 105, 102, 102, 101, 114, 115]⟩, .string ⟨#[110, 111, 103, 108, 117, 101]⟩, .string ⟨#[110, 111, 99, 104, 105, 108, 100]⟩] 9) = Wt := hWt
     rw [hWt] at HM2
     rw [hWt']
     have HM := HM2
     clear HM2 hWt hWt'
     gi_loopw [3, 9] (fun v3 vi A => ∃ (k : Nat) (a3 : Option Addr) (c3 : Nat), k <= ng /\ vi = .int .i64 k /\ v3 = .slice a3 ((ne + nf) + k) c3 /\ Hid (LxM w #[.slice oe ne ce, .slice of nf cf, .slice og ng cg, .slice os ns cs, .int .i64 ev] tb2 (Tt.edges.map S).toArray 9 (((r.es.map fun x => Tt.jn (Tt.erRow x)) ++ r.fs.map fun x => Tt.jn (Tt.flRow x)) ++ (r.gs.take k).map fun x => Tt.jn (Tt.egRow x)) ((ne + nf) + k) v3 A)) (fun _ vi _ => ng - (intOf vi).toNat)
     case atStart =>
      exact ⟨0, _, _, Nat.zero_le _, rfl, rfl, by first | exact HM | (rw [List.take_zero, List.map_nil, List.append_nil]; exact HM)⟩
     case round =>
      obtain ⟨k, a3, c3, hk, rfl, rfl, HL⟩ := hrel
      clear HM
      have c0 : wr.cell? ⟨B, 2, none⟩ = some (.slice og ng cg) := by rw [<- HB.out]; exact HL.out.rb.cell 2
      by_cases hlt : k < ng
      case pos =>
       have hlz : (k : Int) < (ng : Int) := by omega
       have hlen : k < r.gs.length := by rw [HNG.out]; exact hlt
       obtain ⟨cs', z, henc, _, ⟨a, rfl, hz⟩, e0, e1⟩ := (HR.out.below HL.out.below).g.at (by decide) k hlen
       obtain ⟨x, hx⟩ : ∃ x, r.gs[k] = x := ⟨_, rfl⟩
       have hxok := HOK.out.g _ (List.getElem_mem hlen)
       have hnext := map_take_next r.gs (fun x => Tt.jn (Tt.egRow x)) k hlen
       rw [hx] at henc hxok
       simp only [hx] at hnext
       have HNX := Lib.hid hnext
       clear hx hnext
       obtain ⟨v1, v2, v3, rfl, h1, h2, h3⟩ := henc
       have e_1 := e1 1 (by decide) (by decide)
       have e_2 := e1 2 (by decide) (by decide)
       have e_3 := e1 3 (by decide) (by decide)
       have e_4 := e1 4 (by decide) (by decide)
       simp only [List.getElem?_cons_zero, List.getElem?_cons_succ] at e0 e_1 e_2 e_3 e_4
       have hz' : a.add (k * 5) = z := hz.symm
       clear hz e1
       obtain ⟨m0, hm0⟩ : ∃ m : Nat, x.kind = m := ⟨x.kind.toNat, by have := hxok.k0; omega⟩
       have hml0 : m0 <= 4 := by have := hxok.k1; omega
       rw [hm0] at e0
       obtain ⟨p1, c1, rfl, _, _⟩ := h1.form
       obtain ⟨l1, hl1⟩ : ∃ n, x.parent.length = n := ⟨_, rfl⟩
       rw [hl1] at e_1 h1
       obtain ⟨p2, c2, rfl, _, _⟩ := h2.form
       obtain ⟨l2, hl2⟩ : ∃ n, x.child.length = n := ⟨_, rfl⟩
       rw [hl2] at e_2 h2
       obtain ⟨p3, c3, rfl, _, _⟩ := h3.form
       obtain ⟨l3, hl3⟩ : ∃ n, x.host.length = n := ⟨_, rfl⟩
       rw [hl3] at e_3 h3
       obtain ⟨m4, hm4⟩ : ∃ m : Nat, x.server = m := ⟨x.server.toNat, by have := hxok.s0; omega⟩
       have hml4 : m4 <= 1099511627776 := by have := hxok.s1; omega
       rw [hm4] at e_4
       have hk2 : m0 < 5 := by omega
       obtain ⟨y0, hy0⟩ : ∃ y, Tt.wd Tt.edges m0 = y := ⟨_, rfl⟩
       have hyl0 : y0.length <= 5000000 := Nat.le_trans (show y0.length <= 20 by rw [<- hy0]; exact Tt.wd_len Tt.edges_len) (by decide)
       obtain ⟨y1, hy1⟩ : ∃ y, Nm.text x.parent = y := ⟨_, rfl⟩
       have hyl1 : y1.length <= 5000000 := by rw [<- hy1]; exact hxok.p.text_len
       have H1 : Hid (∀ W', Below wr.heap.size wr W' -> Calls Tryd.prog 25 #[.slice p1 l1 c1] W' (Gives (S y1) W')) := fun W' hW => by
        have h := refNameText_any _ x.parent W' (h1.below hW) hxok.p
        rw [hy1] at h; exact h
       obtain ⟨y2, hy2⟩ : ∃ y, Nm.text x.child = y := ⟨_, rfl⟩
       have hyl2 : y2.length <= 5000000 := by rw [<- hy2]; exact hxok.c.text_len
       have H2 : Hid (∀ W', Below wr.heap.size wr W' -> Calls Tryd.prog 25 #[.slice p2 l2 c2] W' (Gives (S y2) W')) := fun W' hW => by
        have h := refNameText_any _ x.child W' (h2.below hW) hxok.c
        rw [hy2] at h; exact h
       obtain ⟨y3, hy3⟩ : ∃ y, Lib.decDigits m4 = y := ⟨_, rfl⟩
       have hyl3 : y3.length <= 5000000 := by rw [<- hy3]; exact Nat.le_trans (dec_len m4 (by omega)) (by decide)
       have H3 : Hid (∀ W', Below wr.heap.size wr W' -> Calls Tryd.prog 26 #[.int .i64 (m4 : Int)] W' (Gives (S y3) W')) := fun W' hW => by
        have h := lnum_any m4 (by omega) W'
        rw [hy3] at h; exact h
       obtain ⟨ye, hye⟩ : ∃ y, Tt.host x.host = y := ⟨_, rfl⟩
       have hyle : ye.length <= 5000000 := by rw [<- hye]; exact Tt.host_len hxok.h
       have HE : Hid (0 < l3 -> ∀ W', Below wr.heap.size wr W' -> Calls Tryd.prog 25 #[.slice p3 l3 c3] W' (Gives (S ye) W')) := fun h0 W' hW => by
        have h := refNameText_any _ x.host W' (h3.below hW) hxok.h
        have hne : x.host ≠ [] := by intro e; rw [e] at hl3; simp at hl3; omega
        unfold Tt.host at hye
        rw [if_neg hne] at hye
        rw [hye] at h; exact h
       have HE0 : Hid (l3 = 0 -> ye = [45]) := fun h0 => by
        have hne : x.host = [] := List.length_eq_zero_iff.1 (by omega)
        unfold Tt.host at hye
        rw [if_pos hne] at hye
        exact hye.symm
       obtain ⟨yl, hyl⟩ : ∃ y, (((([101, 100, 103, 101, 32] ++ y0) ++ [32] ++ y1) ++ [32] ++ y2) ++ [32] ++ ye) ++ [32] ++ y3 = y := ⟨_, rfl⟩
       have HY : Hid (Tt.jn (Tt.egRow x) = yl) := by
        show _ = _
        unfold Tt.jn Tt.egRow
        rw [hm0, hm4, Int.toNat_natCast, Int.toNat_natCast, hy0, hy1, hy2, hy3, hye, <- hyl]; simp [Lib.join_cons, Lib.joinTail]
       have HYL := Lib.hid hyl
       have HY0 := Lib.hid hy0
       have HMK := Lib.hid hk2
       clear hm0 hl1 h1 hl2 h2 hl3 h3 hm4 hy0 hy1 hy2 hy3 hyl hxok hye
       obtain ⟨fb, hfb⟩ : ∃ b, wr.heap.size = b := ⟨_, rfl⟩
       have hfb0 := Blk.new wr #[.int .i64 (m0 : Int), .slice p1 l1 c1, .slice p2 l2 c2, .slice p3 l3 c3, .int .i64 (m4 : Int)] 55
       have hfa : Below wr.heap.size wr (wr.alloc (.cells #[.int .i64 (m0 : Int), .slice p1 l1 c1, .slice p2 l2 c2, .slice p3 l3 c3, .int .i64 (m4 : Int)] 55)) := (Below.refl _ _).alloc (Nat.le_refl _) _
       rw [hfb] at hfb0
       obtain ⟨Wf, hWf⟩ : ∃ x, wr.alloc (.cells #[.int .i64 (m0 : Int), .slice p1 l1 c1, .slice p2 l2 c2, .slice p3 l3 c3, .int .i64 (m4 : Int)] 55) = x := ⟨_, rfl⟩
       rw [hWf] at hfb0 hfa
       have HBf := Lib.hid hfa
       have HFf : Hid (Blk fb #[.int .i64 (m0 : Int), .slice p1 l1 c1, .slice p2 l2 c2, .slice p3 l3 c3, .int .i64 (m4 : Int)] 55 Wf /\ Blk tb2 (Tt.edges.map S).toArray 9 Wf) := ⟨hfb0, (HL.out.on hfa).tab⟩
       have HW := Lib.hid hWf
       have HFB := Lib.hid hfb
       clear hfb hfb0 hfa hWf
       by_cases hh0 : 0 < l3
       case pos =>
        have hh1 : (0 : Int) < (l3 : Int) := by omega
        have HE1 := Lib.hid (HE.out hh0)
        clear HE HE0 hh0
        gi_wp2_with fail
        rw [HW.out, HFB.out]
        refine (callsIn_wide.2 (HE1.out Wf HBf.out)).mono ?_
        rintro e w_h ⟨rfl, bh⟩
        have HBh := Lib.hid (below5 HBf.out bh)
        have HFh : Hid (Blk fb #[.int .i64 (m0 : Int), .slice p1 l1 c1, .slice p2 l2 c2, .slice p3 l3 c3, .int .i64 (m4 : Int)] 55 w_h /\ Blk tb2 (Tt.edges.map S).toArray 9 w_h) := ⟨HFf.out.1.below bh, HFf.out.2.below bh⟩
        clear e0 e_1 e_2 e_3 e_4 hz' c0 bh HE1
        gi_wp2_with fail
        have HCS : Hid (∀ W', Blk fb #[.int .i64 (m0 : Int), .slice p1 l1 c1, .slice p2 l2 c2, .slice p3 l3 c3, .int .i64 (m4 : Int)] 55 W' /\ Blk tb2 (Tt.edges.map S).toArray 9 W' -> Cs [(⟨fb, 0, none⟩, Value.int .i64 (m0 : Int)), (⟨fb, 1, none⟩, Value.slice p1 l1 c1), (⟨fb, 2, none⟩, Value.slice p2 l2 c2), (⟨fb, 3, none⟩, Value.slice p3 l3 c3), (⟨fb, 4, none⟩, Value.int .i64 (m4 : Int)), (⟨tb2, m0, none⟩, S y0)] W') := fun W' h => ⟨h.1.cell 0, h.1.cell 1, h.1.cell 2, h.1.cell 3, h.1.cell 4, by
         rw [h.2.cell m0]
         have h1 := HY0.out
         unfold Tt.wd at h1
         have h2 : m0 < Tt.edges.length := HMK.out
         rw [List.getElem?_eq_getElem h2, Option.getD_some] at h1
         simp [h2, h1], trivial⟩
        refine drawnH [3, 5, 6, 7, 9, 10, 11, 12, 14, 15, 16, 17, 19, 20, 22, 23, 24, 25, 26] (Cs [(⟨fb, 0, none⟩, Value.int .i64 (m0 : Int)), (⟨fb, 1, none⟩, Value.slice p1 l1 c1), (⟨fb, 2, none⟩, Value.slice p2 l2 c2), (⟨fb, 3, none⟩, Value.slice p3 l3 c3), (⟨fb, 4, none⟩, Value.int .i64 (m4 : Int)), (⟨tb2, m0, none⟩, S y0)]) 28 rfl (by kernel_rfl) ?_
        intro w' hw'
        have hb : Below w_h.heap.size w_h w' := by subst hw'; exact (Below.refl _ _).drew
        have HB_0 := Lib.hid (below5 HBh.out hb)
        have HF_0 : Hid (Blk fb #[.int .i64 (m0 : Int), .slice p1 l1 c1, .slice p2 l2 c2, .slice p3 l3 c3, .int .i64 (m4 : Int)] 55 w' /\ Blk tb2 (Tt.edges.map S).toArray 9 w') := ⟨HFh.out.1.below hb, HFh.out.2.below hb⟩
        have hS := HCS.out w' HF_0.out
        clear hw' hb
        refine tP 0 ?qg1v0 (fun w1 _ => ?qg1y0) ?_
        case qg1y0 => (go_simp; try first | rfl | (rw [if_pos (by omega)]) | (rw [if_neg (by omega)]) | (rw [if_neg (by simp; omega)]) | (split <;> first | (exfalso; omega) | rfl))
        refine tP 1 ?qg1v1 (fun w1 _ => ?qg1y1) ?_
        case qg1y1 => (go_simp; try first | rfl | (rw [if_pos (by omega)]) | (rw [if_neg (by omega)]) | (rw [if_neg (by simp; omega)]) | (split <;> first | (exfalso; omega) | rfl))
        refine tP 2 ?qg1v2 (fun w1 _ => ?qg1y2) ?_
        case qg1y2 => (go_simp; try first | rfl | (rw [if_pos (by omega)]) | (rw [if_neg (by omega)]) | (rw [if_neg (by simp; omega)]) | (split <;> first | (exfalso; omega) | rfl))
        refine tP 8 ?qg1v8 (fun w1 _ => ?qg1y8) ?_
        case qg1y8 => (go_simp; try first | rfl | (rw [if_pos (by omega)]) | (rw [if_neg (by omega)]) | (rw [if_neg (by simp; omega)]) | (split <;> first | (exfalso; omega) | rfl))
        refine tP 13 ?qg1v13 (fun w1 _ => ?qg1y13) ?_
        case qg1y13 => (go_simp; try first | rfl | (rw [if_pos (by omega)]) | (rw [if_neg (by omega)]) | (rw [if_neg (by simp; omega)]) | (split <;> first | (exfalso; omega) | rfl))
        refine tP 18 ?qg1v18 (fun w1 _ => ?qg1y18) ?_
        case qg1y18 => (go_simp; try first | rfl | (rw [if_pos (by omega)]) | (rw [if_neg (by omega)]) | (rw [if_neg (by simp; omega)]) | (split <;> first | (exfalso; omega) | rfl))
        refine tP 21 ?qg1v21 (fun w1 _ => ?qg1y21) ?_
        case qg1y21 => (go_simp; try first | rfl | (rw [if_pos (by omega)]) | (rw [if_neg (by omega)]) | (rw [if_neg (by simp; omega)]) | (split <;> first | (exfalso; omega) | rfl))
        simp only [Act.put, List.setIfInBounds_toArray, List.set_cons_succ, List.set_cons_zero]
        refine tH 3 ?qg1v3 hS (fun w1 ⟨x0, x1, x2, x3, x4, x5, _⟩ => ?qg1y3) ?_
        case qg1y3 => (go_simp; try first | rfl | (rw [if_pos (by omega)]) | (rw [if_neg (by omega)]) | (rw [if_neg (by simp; omega)]) | (split <;> first | (exfalso; omega) | rfl))
        simp only [Act.put, List.setIfInBounds_toArray, List.set_cons_succ, List.set_cons_zero]
        refine tP 4 ?qg1v4 (fun w1 _ => ?qg1y4) ?_
        case qg1y4 => (go_simp; try first | rfl | (rw [if_pos (by omega)]) | (rw [if_neg (by omega)]) | (rw [if_neg (by simp; omega)]) | (split <;> first | (exfalso; omega) | rfl))
        simp only [Act.put, List.setIfInBounds_toArray, List.set_cons_succ, List.set_cons_zero]
        refine tH 5 ?qg1v5 hS (fun w1 ⟨x0, x1, x2, x3, x4, x5, _⟩ => ?qg1y5) ?_
        case qg1y5 => (go_simp; try first | rfl | (rw [if_pos (by omega)]) | (rw [if_neg (by omega)]) | (rw [if_neg (by simp; omega)]) | (split <;> first | (exfalso; omega) | rfl))
        simp only [Act.put, List.setIfInBounds_toArray, List.set_cons_succ, List.set_cons_zero]
        refine tH 6 ?qg1v6 hS (fun w1 ⟨x0, x1, x2, x3, x4, x5, _⟩ => ?qg1y6) ?_
        case qg1y6 => (go_simp; try first | rfl | (rw [if_pos (by omega)]) | (rw [if_neg (by omega)]) | (rw [if_neg (by simp; omega)]) | (split <;> first | (exfalso; omega) | rfl))
        refine tH 7 ?qg1v7 hS (fun w1 ⟨x0, x1, x2, x3, x4, x5, _⟩ => ?qg1y7) ?_
        case qg1y7 => (go_simp; try first | rfl | (rw [if_pos (by omega)]) | (rw [if_neg (by omega)]) | (rw [if_neg (by simp; omega)]) | (split <;> first | (exfalso; omega) | rfl))
        simp only [Act.put, List.setIfInBounds_toArray, List.set_cons_succ, List.set_cons_zero]
        refine tH 9 ?qg1v9 hS (fun w1 ⟨x0, x1, x2, x3, x4, x5, _⟩ => ?qg1y9) ?_
        case qg1y9 => (go_simp; try first | rfl | (rw [if_pos (by omega)]) | (rw [if_neg (by omega)]) | (rw [if_neg (by simp; omega)]) | (split <;> first | (exfalso; omega) | rfl))
        refine tH 14 ?qg1v14 hS (fun w1 ⟨x0, x1, x2, x3, x4, x5, _⟩ => ?qg1y14) ?_
        case qg1y14 => (go_simp; try first | rfl | (rw [if_pos (by omega)]) | (rw [if_neg (by omega)]) | (rw [if_neg (by simp; omega)]) | (split <;> first | (exfalso; omega) | rfl))
        refine tH 22 ?qg1v22 hS (fun w1 ⟨x0, x1, x2, x3, x4, x5, _⟩ => ?qg1y22) ?_
        case qg1y22 => (go_simp; try first | rfl | (rw [if_pos (by omega)]) | (rw [if_neg (by omega)]) | (rw [if_neg (by simp; omega)]) | (split <;> first | (exfalso; omega) | rfl))
        simp only [Act.put, List.setIfInBounds_toArray, List.set_cons_succ, List.set_cons_zero]
        clear hS
        refine oneH 10 (by rfl) (by kernel_rfl) (fun K hK => ?_)
        gi_wp2_with (gi_at_call 25; refine (callsIn_wide.2 (H1.out _ HB_0.out)).mono ?_; rintro e w_1 ⟨rfl, b2⟩)
        have HB_1 := Lib.hid (below5 HB_0.out b2)
        have HF_1 : Hid (Blk fb #[.int .i64 (m0 : Int), .slice p1 l1 c1, .slice p2 l2 c2, .slice p3 l3 c3, .int .i64 (m4 : Int)] 55 w_1 /\ Blk tb2 (Tt.edges.map S).toArray 9 w_1) := ⟨HF_0.out.1.below b2, HF_0.out.2.below b2⟩
        refine hK _ _ (fun _ => HCS.out _ HF_1.out) ?_
        have hS := HCS.out _ HF_1.out
        clear hK K b2
        refine tH 11 ?qg1v11 hS (fun w1 ⟨x0, x1, x2, x3, x4, x5, _⟩ => ?qg1y11) ?_
        case qg1y11 => (go_simp; try first | rfl | (rw [if_pos (by omega)]) | (rw [if_neg (by omega)]) | (rw [if_neg (by simp; omega)]) | (split <;> first | (exfalso; omega) | rfl))
        refine tH 12 ?qg1v12 hS (fun w1 ⟨x0, x1, x2, x3, x4, x5, _⟩ => ?qg1y12) ?_
        case qg1y12 => (go_simp; try first | rfl | (rw [if_pos (by omega)]) | (rw [if_neg (by omega)]) | (rw [if_neg (by simp; omega)]) | (split <;> first | (exfalso; omega) | rfl))
        simp only [Act.put, List.setIfInBounds_toArray, List.set_cons_succ, List.set_cons_zero]
        clear hS
        refine oneH 15 (by rfl) (by kernel_rfl) (fun K hK => ?_)
        gi_wp2_with (gi_at_call 25; refine (callsIn_wide.2 (H2.out _ HB_1.out)).mono ?_; rintro e w_2 ⟨rfl, b2⟩)
        have HB_2 := Lib.hid (below5 HB_1.out b2)
        have HF_2 : Hid (Blk fb #[.int .i64 (m0 : Int), .slice p1 l1 c1, .slice p2 l2 c2, .slice p3 l3 c3, .int .i64 (m4 : Int)] 55 w_2 /\ Blk tb2 (Tt.edges.map S).toArray 9 w_2) := ⟨HF_1.out.1.below b2, HF_1.out.2.below b2⟩
        refine hK _ _ (fun _ => HCS.out _ HF_2.out) ?_
        have hS := HCS.out _ HF_2.out
        clear hK K b2
        refine tH 16 ?qg1v16 hS (fun w1 ⟨x0, x1, x2, x3, x4, x5, _⟩ => ?qg1y16) ?_
        case qg1y16 => (go_simp; try first | rfl | (rw [if_pos (by omega)]) | (rw [if_neg (by omega)]) | (rw [if_neg (by simp; omega)]) | (split <;> first | (exfalso; omega) | rfl))
        refine tH 17 ?qg1v17 hS (fun w1 ⟨x0, x1, x2, x3, x4, x5, _⟩ => ?qg1y17) ?_
        case qg1y17 => (go_simp; try first | rfl | (rw [if_pos (by omega)]) | (rw [if_neg (by omega)]) | (rw [if_neg (by simp; omega)]) | (split <;> first | (exfalso; omega) | rfl))
        refine tH 19 ?qg1v19 hS (fun w1 ⟨x0, x1, x2, x3, x4, x5, _⟩ => ?qg1y19) ?_
        case qg1y19 => (go_simp; try first | rfl | (rw [if_pos (by omega)]) | (rw [if_neg (by omega)]) | (rw [if_neg (by simp; omega)]) | (split <;> first | (exfalso; omega) | rfl))
        refine tH 20 ?qg1v20 hS (fun w1 ⟨x0, x1, x2, x3, x4, x5, _⟩ => ?qg1y20) ?_
        case qg1y20 => (go_simp; try first | rfl | (rw [if_pos (by omega)]) | (rw [if_neg (by omega)]) | (rw [if_neg (by simp; omega)]) | (split <;> first | (exfalso; omega) | rfl))
        simp only [Act.put, List.setIfInBounds_toArray, List.set_cons_succ, List.set_cons_zero]
        clear hS
        refine oneH 23 (by rfl) (by kernel_rfl) (fun K hK => ?_)
        gi_wp2_with (gi_at_call 26; refine (callsIn_wide.2 (H3.out _ HB_2.out)).mono ?_; rintro e w_3 ⟨rfl, b2⟩)
        have HB_3 := Lib.hid (below5 HB_2.out b2)
        have HF_3 : Hid (Blk fb #[.int .i64 (m0 : Int), .slice p1 l1 c1, .slice p2 l2 c2, .slice p3 l3 c3, .int .i64 (m4 : Int)] 55 w_3 /\ Blk tb2 (Tt.edges.map S).toArray 9 w_3) := ⟨HF_2.out.1.below b2, HF_2.out.2.below b2⟩
        refine hK _ _ (fun _ => HCS.out _ HF_3.out) ?_
        have hS := HCS.out _ HF_3.out
        clear hK K b2
        refine tH 24 ?qg1v24 hS (fun w1 ⟨x0, x1, x2, x3, x4, x5, _⟩ => ?qg1y24) ?_
        case qg1y24 => (go_simp; try first | rfl | (rw [if_pos (by omega)]) | (rw [if_neg (by omega)]) | (rw [if_neg (by simp; omega)]) | (split <;> first | (exfalso; omega) | rfl))
        simp only [Act.put, List.setIfInBounds_toArray, List.set_cons_succ, List.set_cons_zero]
        clear hS
        simp only [append_S]
        rw [HYL.out]
        have hba : Below w_3.heap.size w_3 (w_3.alloc (.cells #[S yl] 9)) := (Below.refl _ _).alloc (Nat.le_refl _) _
        have HLB := Lib.hid (HL.out.on (below5 HB_3.out hba))
        have HSZ : Hid ((fun g => w.heap.size < g /\ g ≠ tb2) (w_3.alloc (.cells #[S yl] 9)).heap.size) := by
         have h1 := HLB.out.rb.lt
         have h2 := HLB.out.tab.lt
         exact ⟨h1, fun e => by rw [<- e] at h2; exact Nat.lt_irrefl _ h2⟩
        clear hba
        refine oneH 25 (by rfl) (by kernel_rfl) (fun K hK => ?_)
        gi_wp2_with fail
        refine hK _ _ (fun _ => HCS.out _ ⟨HF_3.out.1.alloc _, HF_3.out.2.alloc _⟩) ?_
        clear hK K
        refine oneH 26 (by rfl) (by kernel_rfl) (fun K hK => ?_)
        gi_wp2_with (gi_at_builtin; refine append_rd (fun g => w.heap.size < g /\ g ≠ tb2) rfl _ _ _ Tryd.underlying35 rfl _ ((ne + nf) + k) _ (by rfl) HLB.out.row _ [yl] (by rfl) (rd_row1 _ _) (by simp; omega) HSZ.out ?_; intro v' w' hrow' hgr)
        obtain ⟨a4, c4, rfl⟩ := hrow'.form
        have HL2 := Lib.hid (HLB.out.push hrow' hgr)
        have HCF := Lib.hid (HCS.out w' ⟨(HF_3.out.1.alloc _).rowKeep HLB.out.row hgr (by decide), HL2.out.tab⟩)
        refine hK _ _ (fun _ => HCF.out) ?_
        clear hK K hrow' hgr HLB HSZ
        refine oneH 27 (by rfl) (by kernel_rfl) (fun K hK => ?_)
        gi_wp2_with fail
        refine hK _ _ (fun h => absurd h (by decide)) ?_
        clear hK K
        refine doneH (by kernel_rfl) ?_
        gi_wp2_with fail
        exact ⟨⟨k + 1, a4, c4, hlt, by go_num, rfl, by rw [HNX.out, <- List.append_assoc, HY.out]; exact HL2⟩, by simp [intOf]; omega⟩
       case neg =>
        have hh1 : ¬ ((0 : Int) < (l3 : Int)) := by omega
        obtain rfl : ye = [45] := HE0.out (by omega)
        clear HE HE0 hh0
        gi_wp2_with fail
        rw [HW.out, HFB.out]
        clear e0 e_1 e_2 e_3 e_4 hz' c0
        have HCS : Hid (∀ W', Blk fb #[.int .i64 (m0 : Int), .slice p1 l1 c1, .slice p2 l2 c2, .slice p3 l3 c3, .int .i64 (m4 : Int)] 55 W' /\ Blk tb2 (Tt.edges.map S).toArray 9 W' -> Cs [(⟨fb, 0, none⟩, Value.int .i64 (m0 : Int)), (⟨fb, 1, none⟩, Value.slice p1 l1 c1), (⟨fb, 2, none⟩, Value.slice p2 l2 c2), (⟨fb, 3, none⟩, Value.slice p3 l3 c3), (⟨fb, 4, none⟩, Value.int .i64 (m4 : Int)), (⟨tb2, m0, none⟩, S y0)] W') := fun W' h => ⟨h.1.cell 0, h.1.cell 1, h.1.cell 2, h.1.cell 3, h.1.cell 4, by
         rw [h.2.cell m0]
         have h1 := HY0.out
         unfold Tt.wd at h1
         have h2 : m0 < Tt.edges.length := HMK.out
         rw [List.getElem?_eq_getElem h2, Option.getD_some] at h1
         simp [h2, h1], trivial⟩
        refine drawnH [3, 5, 6, 7, 9, 10, 11, 12, 14, 15, 16, 17, 19, 20, 22, 23, 24, 25, 26] (Cs [(⟨fb, 0, none⟩, Value.int .i64 (m0 : Int)), (⟨fb, 1, none⟩, Value.slice p1 l1 c1), (⟨fb, 2, none⟩, Value.slice p2 l2 c2), (⟨fb, 3, none⟩, Value.slice p3 l3 c3), (⟨fb, 4, none⟩, Value.int .i64 (m4 : Int)), (⟨tb2, m0, none⟩, S y0)]) 28 rfl (by kernel_rfl) ?_
        intro w' hw'
        have hb : Below Wf.heap.size Wf w' := by subst hw'; exact (Below.refl _ _).drew
        have HB_0 := Lib.hid (below5 HBf.out hb)
        have HF_0 : Hid (Blk fb #[.int .i64 (m0 : Int), .slice p1 l1 c1, .slice p2 l2 c2, .slice p3 l3 c3, .int .i64 (m4 : Int)] 55 w' /\ Blk tb2 (Tt.edges.map S).toArray 9 w') := ⟨HFf.out.1.below hb, HFf.out.2.below hb⟩
        have hS := HCS.out w' HF_0.out
        clear hw' hb
        refine tP 0 ?qg2v0 (fun w1 _ => ?qg2y0) ?_
        case qg2y0 => (go_simp; try first | rfl | (rw [if_pos (by omega)]) | (rw [if_neg (by omega)]) | (rw [if_neg (by simp; omega)]) | (split <;> first | (exfalso; omega) | rfl))
        refine tP 1 ?qg2v1 (fun w1 _ => ?qg2y1) ?_
        case qg2y1 => (go_simp; try first | rfl | (rw [if_pos (by omega)]) | (rw [if_neg (by omega)]) | (rw [if_neg (by simp; omega)]) | (split <;> first | (exfalso; omega) | rfl))
        refine tP 2 ?qg2v2 (fun w1 _ => ?qg2y2) ?_
        case qg2y2 => (go_simp; try first | rfl | (rw [if_pos (by omega)]) | (rw [if_neg (by omega)]) | (rw [if_neg (by simp; omega)]) | (split <;> first | (exfalso; omega) | rfl))
        refine tP 8 ?qg2v8 (fun w1 _ => ?qg2y8) ?_
        case qg2y8 => (go_simp; try first | rfl | (rw [if_pos (by omega)]) | (rw [if_neg (by omega)]) | (rw [if_neg (by simp; omega)]) | (split <;> first | (exfalso; omega) | rfl))
        refine tP 13 ?qg2v13 (fun w1 _ => ?qg2y13) ?_
        case qg2y13 => (go_simp; try first | rfl | (rw [if_pos (by omega)]) | (rw [if_neg (by omega)]) | (rw [if_neg (by simp; omega)]) | (split <;> first | (exfalso; omega) | rfl))
        refine tP 18 ?qg2v18 (fun w1 _ => ?qg2y18) ?_
        case qg2y18 => (go_simp; try first | rfl | (rw [if_pos (by omega)]) | (rw [if_neg (by omega)]) | (rw [if_neg (by simp; omega)]) | (split <;> first | (exfalso; omega) | rfl))
        refine tP 21 ?qg2v21 (fun w1 _ => ?qg2y21) ?_
        case qg2y21 => (go_simp; try first | rfl | (rw [if_pos (by omega)]) | (rw [if_neg (by omega)]) | (rw [if_neg (by simp; omega)]) | (split <;> first | (exfalso; omega) | rfl))
        simp only [Act.put, List.setIfInBounds_toArray, List.set_cons_succ, List.set_cons_zero]
        refine tH 3 ?qg2v3 hS (fun w1 ⟨x0, x1, x2, x3, x4, x5, _⟩ => ?qg2y3) ?_
        case qg2y3 => (go_simp; try first | rfl | (rw [if_pos (by omega)]) | (rw [if_neg (by omega)]) | (rw [if_neg (by simp; omega)]) | (split <;> first | (exfalso; omega) | rfl))
        simp only [Act.put, List.setIfInBounds_toArray, List.set_cons_succ, List.set_cons_zero]
        refine tP 4 ?qg2v4 (fun w1 _ => ?qg2y4) ?_
        case qg2y4 => (go_simp; try first | rfl | (rw [if_pos (by omega)]) | (rw [if_neg (by omega)]) | (rw [if_neg (by simp; omega)]) | (split <;> first | (exfalso; omega) | rfl))
        simp only [Act.put, List.setIfInBounds_toArray, List.set_cons_succ, List.set_cons_zero]
        refine tH 5 ?qg2v5 hS (fun w1 ⟨x0, x1, x2, x3, x4, x5, _⟩ => ?qg2y5) ?_
        case qg2y5 => (go_simp; try first | rfl | (rw [if_pos (by omega)]) | (rw [if_neg (by omega)]) | (rw [if_neg (by simp; omega)]) | (split <;> first | (exfalso; omega) | rfl))
        simp only [Act.put, List.setIfInBounds_toArray, List.set_cons_succ, List.set_cons_zero]
        refine tH 6 ?qg2v6 hS (fun w1 ⟨x0, x1, x2, x3, x4, x5, _⟩ => ?qg2y6) ?_
        case qg2y6 => (go_simp; try first | rfl | (rw [if_pos (by omega)]) | (rw [if_neg (by omega)]) | (rw [if_neg (by simp; omega)]) | (split <;> first | (exfalso; omega) | rfl))
        refine tH 7 ?qg2v7 hS (fun w1 ⟨x0, x1, x2, x3, x4, x5, _⟩ => ?qg2y7) ?_
        case qg2y7 => (go_simp; try first | rfl | (rw [if_pos (by omega)]) | (rw [if_neg (by omega)]) | (rw [if_neg (by simp; omega)]) | (split <;> first | (exfalso; omega) | rfl))
        simp only [Act.put, List.setIfInBounds_toArray, List.set_cons_succ, List.set_cons_zero]
        refine tH 9 ?qg2v9 hS (fun w1 ⟨x0, x1, x2, x3, x4, x5, _⟩ => ?qg2y9) ?_
        case qg2y9 => (go_simp; try first | rfl | (rw [if_pos (by omega)]) | (rw [if_neg (by omega)]) | (rw [if_neg (by simp; omega)]) | (split <;> first | (exfalso; omega) | rfl))
        refine tH 14 ?qg2v14 hS (fun w1 ⟨x0, x1, x2, x3, x4, x5, _⟩ => ?qg2y14) ?_
        case qg2y14 => (go_simp; try first | rfl | (rw [if_pos (by omega)]) | (rw [if_neg (by omega)]) | (rw [if_neg (by simp; omega)]) | (split <;> first | (exfalso; omega) | rfl))
        refine tH 22 ?qg2v22 hS (fun w1 ⟨x0, x1, x2, x3, x4, x5, _⟩ => ?qg2y22) ?_
        case qg2y22 => (go_simp; try first | rfl | (rw [if_pos (by omega)]) | (rw [if_neg (by omega)]) | (rw [if_neg (by simp; omega)]) | (split <;> first | (exfalso; omega) | rfl))
        simp only [Act.put, List.setIfInBounds_toArray, List.set_cons_succ, List.set_cons_zero]
        clear hS
        refine oneH 10 (by rfl) (by kernel_rfl) (fun K hK => ?_)
        gi_wp2_with (gi_at_call 25; refine (callsIn_wide.2 (H1.out _ HB_0.out)).mono ?_; rintro e w_1 ⟨rfl, b2⟩)
        have HB_1 := Lib.hid (below5 HB_0.out b2)
        have HF_1 : Hid (Blk fb #[.int .i64 (m0 : Int), .slice p1 l1 c1, .slice p2 l2 c2, .slice p3 l3 c3, .int .i64 (m4 : Int)] 55 w_1 /\ Blk tb2 (Tt.edges.map S).toArray 9 w_1) := ⟨HF_0.out.1.below b2, HF_0.out.2.below b2⟩
        refine hK _ _ (fun _ => HCS.out _ HF_1.out) ?_
        have hS := HCS.out _ HF_1.out
        clear hK K b2
        refine tH 11 ?qg2v11 hS (fun w1 ⟨x0, x1, x2, x3, x4, x5, _⟩ => ?qg2y11) ?_
        case qg2y11 => (go_simp; try first | rfl | (rw [if_pos (by omega)]) | (rw [if_neg (by omega)]) | (rw [if_neg (by simp; omega)]) | (split <;> first | (exfalso; omega) | rfl))
        refine tH 12 ?qg2v12 hS (fun w1 ⟨x0, x1, x2, x3, x4, x5, _⟩ => ?qg2y12) ?_
        case qg2y12 => (go_simp; try first | rfl | (rw [if_pos (by omega)]) | (rw [if_neg (by omega)]) | (rw [if_neg (by simp; omega)]) | (split <;> first | (exfalso; omega) | rfl))
        simp only [Act.put, List.setIfInBounds_toArray, List.set_cons_succ, List.set_cons_zero]
        clear hS
        refine oneH 15 (by rfl) (by kernel_rfl) (fun K hK => ?_)
        gi_wp2_with (gi_at_call 25; refine (callsIn_wide.2 (H2.out _ HB_1.out)).mono ?_; rintro e w_2 ⟨rfl, b2⟩)
        have HB_2 := Lib.hid (below5 HB_1.out b2)
        have HF_2 : Hid (Blk fb #[.int .i64 (m0 : Int), .slice p1 l1 c1, .slice p2 l2 c2, .slice p3 l3 c3, .int .i64 (m4 : Int)] 55 w_2 /\ Blk tb2 (Tt.edges.map S).toArray 9 w_2) := ⟨HF_1.out.1.below b2, HF_1.out.2.below b2⟩
        refine hK _ _ (fun _ => HCS.out _ HF_2.out) ?_
        have hS := HCS.out _ HF_2.out
        clear hK K b2
        refine tH 16 ?qg2v16 hS (fun w1 ⟨x0, x1, x2, x3, x4, x5, _⟩ => ?qg2y16) ?_
        case qg2y16 => (go_simp; try first | rfl | (rw [if_pos (by omega)]) | (rw [if_neg (by omega)]) | (rw [if_neg (by simp; omega)]) | (split <;> first | (exfalso; omega) | rfl))
        refine tH 17 ?qg2v17 hS (fun w1 ⟨x0, x1, x2, x3, x4, x5, _⟩ => ?qg2y17) ?_
        case qg2y17 => (go_simp; try first | rfl | (rw [if_pos (by omega)]) | (rw [if_neg (by omega)]) | (rw [if_neg (by simp; omega)]) | (split <;> first | (exfalso; omega) | rfl))
        refine tH 19 ?qg2v19 hS (fun w1 ⟨x0, x1, x2, x3, x4, x5, _⟩ => ?qg2y19) ?_
        case qg2y19 => (go_simp; try first | rfl | (rw [if_pos (by omega)]) | (rw [if_neg (by omega)]) | (rw [if_neg (by simp; omega)]) | (split <;> first | (exfalso; omega) | rfl))
        refine tH 20 ?qg2v20 hS (fun w1 ⟨x0, x1, x2, x3, x4, x5, _⟩ => ?qg2y20) ?_
        case qg2y20 => (go_simp; try first | rfl | (rw [if_pos (by omega)]) | (rw [if_neg (by omega)]) | (rw [if_neg (by simp; omega)]) | (split <;> first | (exfalso; omega) | rfl))
        simp only [Act.put, List.setIfInBounds_toArray, List.set_cons_succ, List.set_cons_zero]
        clear hS
        refine oneH 23 (by rfl) (by kernel_rfl) (fun K hK => ?_)
        gi_wp2_with (gi_at_call 26; refine (callsIn_wide.2 (H3.out _ HB_2.out)).mono ?_; rintro e w_3 ⟨rfl, b2⟩)
        have HB_3 := Lib.hid (below5 HB_2.out b2)
        have HF_3 : Hid (Blk fb #[.int .i64 (m0 : Int), .slice p1 l1 c1, .slice p2 l2 c2, .slice p3 l3 c3, .int .i64 (m4 : Int)] 55 w_3 /\ Blk tb2 (Tt.edges.map S).toArray 9 w_3) := ⟨HF_2.out.1.below b2, HF_2.out.2.below b2⟩
        refine hK _ _ (fun _ => HCS.out _ HF_3.out) ?_
        have hS := HCS.out _ HF_3.out
        clear hK K b2
        refine tH 24 ?qg2v24 hS (fun w1 ⟨x0, x1, x2, x3, x4, x5, _⟩ => ?qg2y24) ?_
        case qg2y24 => (go_simp; try first | rfl | (rw [if_pos (by omega)]) | (rw [if_neg (by omega)]) | (rw [if_neg (by simp; omega)]) | (split <;> first | (exfalso; omega) | rfl))
        simp only [Act.put, List.setIfInBounds_toArray, List.set_cons_succ, List.set_cons_zero]
        clear hS
        simp only [append_S]
        rw [HYL.out]
        have hba : Below w_3.heap.size w_3 (w_3.alloc (.cells #[S yl] 9)) := (Below.refl _ _).alloc (Nat.le_refl _) _
        have HLB := Lib.hid (HL.out.on (below5 HB_3.out hba))
        have HSZ : Hid ((fun g => w.heap.size < g /\ g ≠ tb2) (w_3.alloc (.cells #[S yl] 9)).heap.size) := by
         have h1 := HLB.out.rb.lt
         have h2 := HLB.out.tab.lt
         exact ⟨h1, fun e => by rw [<- e] at h2; exact Nat.lt_irrefl _ h2⟩
        clear hba
        refine oneH 25 (by rfl) (by kernel_rfl) (fun K hK => ?_)
        gi_wp2_with fail
        refine hK _ _ (fun _ => HCS.out _ ⟨HF_3.out.1.alloc _, HF_3.out.2.alloc _⟩) ?_
        clear hK K
        refine oneH 26 (by rfl) (by kernel_rfl) (fun K hK => ?_)
        gi_wp2_with (gi_at_builtin; refine append_rd (fun g => w.heap.size < g /\ g ≠ tb2) rfl _ _ _ Tryd.underlying35 rfl _ ((ne + nf) + k) _ (by rfl) HLB.out.row _ [yl] (by rfl) (rd_row1 _ _) (by simp; omega) HSZ.out ?_; intro v' w' hrow' hgr)
        obtain ⟨a4, c4, rfl⟩ := hrow'.form
        have HL2 := Lib.hid (HLB.out.push hrow' hgr)
        have HCF := Lib.hid (HCS.out w' ⟨(HF_3.out.1.alloc _).rowKeep HLB.out.row hgr (by decide), HL2.out.tab⟩)
        refine hK _ _ (fun _ => HCF.out) ?_
        clear hK K hrow' hgr HLB HSZ
        refine oneH 27 (by rfl) (by kernel_rfl) (fun K hK => ?_)
        gi_wp2_with fail
        refine hK _ _ (fun h => absurd h (by decide)) ?_
        clear hK K
        refine doneH (by kernel_rfl) ?_
        gi_wp2_with fail
        exact ⟨⟨k + 1, a4, c4, hlt, by go_num, rfl, by rw [HNX.out, <- List.append_assoc, HY.out]; exact HL2⟩, by simp [intOf]; omega⟩
      case neg =>
       obtain rfl : ng = k := by omega
       have hlz : ¬ ((ng : Int) < (ng : Int)) := by omega
       have hl := HL.out
       rw [List.take_of_length_le (by rw [HNG.out]; exact Nat.le_refl _)] at hl
       have HM := Lib.hid hl
       clear hl HL
       gi_wp2_with fail
       obtain ⟨tb3, htb⟩ : ∃ b, wr.heap.size = b := ⟨_, rfl⟩
       have hret := HM.out.retab (Tt.ends.map S).toArray 9
       rw [htb] at hret ⊢
       have HM2 := Lib.hid hret
       clear htb hret HM
       obtain ⟨Wt, hWt⟩ : ∃ x, wr.alloc (.cells (Tt.ends.map S).toArray 9) = x := ⟨_, rfl⟩
       have hWt' : wr.alloc (.cells #[.string ⟨#[103, 111, 105, 110, 103]⟩, .string ⟨#[102, 111, 117, 110, 100]⟩, .string ⟨#[101, 109, 112, 116, 121]⟩, .string ⟨#[109, 105, 115, 115, 105, 110, 103]⟩, .string ⟨#[116, 111, 111, 108, 111, 110, 103]⟩, .string ⟨#[114, 101, 102, 117, 115, 101, 100]⟩, .string ⟨#[108, 97, 109, 101]⟩, .string ⟨#[108, 111, 111, 112]⟩, .string ⟨#[102, 97, 114]⟩, .string ⟨#[103, 111, 110, 101]⟩] 9) = Wt := hWt
       rw [hWt] at HM2
       rw [hWt']
       have HM := HM2
       clear HM2 hWt hWt'
       gi_loopw [3, 12] (fun v3 vi A => ∃ (k : Nat) (a3 : Option Addr) (c3 : Nat), k <= ns /\ vi = .int .i64 k /\ v3 = .slice a3 ((ne + nf + ng) + k) c3 /\ Hid (LxM w #[.slice oe ne ce, .slice of nf cf, .slice og ng cg, .slice os ns cs, .int .i64 ev] tb3 (Tt.ends.map S).toArray 9 ((((r.es.map fun x => Tt.jn (Tt.erRow x)) ++ r.fs.map fun x => Tt.jn (Tt.flRow x)) ++ r.gs.map fun x => Tt.jn (Tt.egRow x)) ++ (r.ss.take k).map fun x => Tt.jn (Tt.seRow x)) ((ne + nf + ng) + k) v3 A)) (fun _ vi _ => ns - (intOf vi).toNat)
       case atStart =>
        exact ⟨0, _, _, Nat.zero_le _, rfl, rfl, by first | exact HM | (rw [List.take_zero, List.map_nil, List.append_nil]; exact HM)⟩
       case round =>
        obtain ⟨k, a3, c3, hk, rfl, rfl, HL⟩ := hrel
        clear HM
        have c0 : wr.cell? ⟨B, 3, none⟩ = some (.slice os ns cs) := by rw [<- HB.out]; exact HL.out.rb.cell 3
        by_cases hlt : k < ns
        case pos =>
         have hlz : (k : Int) < (ns : Int) := by omega
         have hlen : k < r.ss.length := by rw [HNS.out]; exact hlt
         obtain ⟨cs', z, henc, _, ⟨a, rfl, hz⟩, e0, e1⟩ := (HR.out.below HL.out.below).s.at (by decide) k hlen
         obtain ⟨x, hx⟩ : ∃ x, r.ss[k] = x := ⟨_, rfl⟩
         have hxok := HOK.out.s _ (List.getElem_mem hlen)
         have hnext := map_take_next r.ss (fun x => Tt.jn (Tt.seRow x)) k hlen
         rw [hx] at henc hxok
         simp only [hx] at hnext
         have HNX := Lib.hid hnext
         clear hx hnext
         obtain ⟨v1, v3, rfl, h1, h3⟩ := henc
         have e_1 := e1 1 (by decide) (by decide)
         have e_2 := e1 2 (by decide) (by decide)
         have e_3 := e1 3 (by decide) (by decide)
         simp only [List.getElem?_cons_zero, List.getElem?_cons_succ] at e0 e_1 e_2 e_3
         have hz' : a.add (k * 4) = z := hz.symm
         clear hz e1
         obtain ⟨m0, hm0⟩ : ∃ m : Nat, x.kind = m := ⟨x.kind.toNat, by have := hxok.k0; omega⟩
         have hml0 : m0 <= 9 := by have := hxok.k1; omega
         rw [hm0] at e0
         obtain ⟨p1, c1, rfl, _, _⟩ := h1.form
         obtain ⟨l1, hl1⟩ : ∃ n, x.name.length = n := ⟨_, rfl⟩
         rw [hl1] at e_1 h1
         obtain ⟨m2, hm2⟩ : ∃ m : Nat, x.type = m := ⟨x.type.toNat, by have := hxok.t0; omega⟩
         have hml2 : m2 <= 65535 := by have := hxok.t1; omega
         rw [hm2] at e_2
         have hnu := NuRd.of_sl h3 (fun y hy => (hxok.p y hy).1)
         obtain ⟨p3, c3, rfl⟩ := hnu.form
         obtain ⟨l3, hl3⟩ : ∃ n, (x.picks.map Int.toNat).length = n := ⟨_, rfl⟩
         rw [hl3] at e_3 hnu
         have hk2 : m0 < 10 := by omega
         obtain ⟨y0, hy0⟩ : ∃ y, Tt.wd Tt.ends m0 = y := ⟨_, rfl⟩
         have hyl0 : y0.length <= 5000000 := Nat.le_trans (show y0.length <= 20 by rw [<- hy0]; exact Tt.wd_len Tt.ends_len) (by decide)
         obtain ⟨y1, hy1⟩ : ∃ y, Nm.text x.name = y := ⟨_, rfl⟩
         have hyl1 : y1.length <= 5000000 := by rw [<- hy1]; exact hxok.n.text_len
         have H1 : Hid (∀ W', Below wr.heap.size wr W' -> Calls Tryd.prog 25 #[.slice p1 l1 c1] W' (Gives (S y1) W')) := fun W' hW => by
          have h := refNameText_any _ x.name W' (h1.below hW) hxok.n
          rw [hy1] at h; exact h
         obtain ⟨y2, hy2⟩ : ∃ y, Ty.text m2 = y := ⟨_, rfl⟩
         have hyl2 : y2.length <= 5000000 := by rw [<- hy2]; exact Nat.le_trans (Ty.text_len m2 (by omega)) (by decide)
         have H2 : Hid (∀ W', Below wr.heap.size wr W' -> Calls Tryd.prog 19 #[.int .i64 (m2 : Int)] W' (Gives (S y2) W')) := fun W' hW => by
          have h := refTText_any m2 (by omega) W'
          rw [hy2] at h; exact h
         obtain ⟨ps, hps⟩ : ∃ l, x.picks.map Int.toNat = l := ⟨_, rfl⟩
         have hp20 : ps.length <= 20 := by rw [<- hps, List.length_map]; exact hxok.l
         have hpx : ∀ n ∈ ps, n < 9223372036854775808 := fun n hn => by
          rw [<- hps] at hn
          obtain ⟨y, hy, rfl⟩ := List.mem_map.1 hn
          have := hxok.p y hy; omega
         rw [hps] at hnu hl3
         obtain ⟨ye, hye⟩ : ∃ y, Tt.picks ps = y := ⟨_, rfl⟩
         have hyle : ye.length <= 5000000 := by rw [<- hye]; exact Nat.le_trans (Tt.picks_len hp20 hpx) (by decide)
         have HNU : Hid (∀ W', Below wr.heap.size wr W' -> NuRd (.slice p3 l3 c3) ps W') := fun W' hW => hnu.below hW
         have HPX := Lib.hid hpx
         have HP20 := Lib.hid hp20
         have HYE := Lib.hid hye
         have HL3 := Lib.hid hl3
         have l3z : (l3 : Int) <= 20 := by omega
         obtain ⟨yl, hyl⟩ : ∃ y, ((([115, 101, 101, 110, 32] ++ y0) ++ [32] ++ y1) ++ [32] ++ y2) ++ [32] ++ ye = y := ⟨_, rfl⟩
         have HY : Hid (Tt.jn (Tt.seRow x) = yl) := by
          show _ = _
          unfold Tt.jn Tt.seRow
          rw [hm0, hm2, Int.toNat_natCast, Int.toNat_natCast, hps, hy0, hy1, hy2, hye, <- hyl]; simp [Lib.join_cons, Lib.joinTail]
         have HYL := Lib.hid hyl
         have HY0 := Lib.hid hy0
         have HMK := Lib.hid hk2
         clear hm0 hl1 h1 hm2 hl3 h3 hy0 hy1 hy2 hyl hxok hye hps hnu hpx hp20
         obtain ⟨fb, hfb⟩ : ∃ b, wr.heap.size = b := ⟨_, rfl⟩
         have hfb0 := Blk.new wr #[.int .i64 (m0 : Int), .slice p1 l1 c1, .int .i64 (m2 : Int), .slice p3 l3 c3] 44
         have hfa : Below wr.heap.size wr (wr.alloc (.cells #[.int .i64 (m0 : Int), .slice p1 l1 c1, .int .i64 (m2 : Int), .slice p3 l3 c3] 44)) := (Below.refl _ _).alloc (Nat.le_refl _) _
         rw [hfb] at hfb0
         obtain ⟨Wf, hWf⟩ : ∃ x, wr.alloc (.cells #[.int .i64 (m0 : Int), .slice p1 l1 c1, .int .i64 (m2 : Int), .slice p3 l3 c3] 44) = x := ⟨_, rfl⟩
         rw [hWf] at hfb0 hfa
         have HBf := Lib.hid hfa
         have HFf : Hid (Blk fb #[.int .i64 (m0 : Int), .slice p1 l1 c1, .int .i64 (m2 : Int), .slice p3 l3 c3] 44 Wf /\ Blk tb3 (Tt.ends.map S).toArray 9 Wf) := ⟨hfb0, (HL.out.on hfa).tab⟩
         have HW := Lib.hid hWf
         have HFB := Lib.hid hfb
         clear hfb hfb0 hfa hWf
         gi_wp2_with fail
         rw [HW.out, HFB.out]
         clear e0 e_1 e_2 e_3 hz' c0
         gi_loopw [14, 15] (fun v14 v15 A => ∃ kp : Nat, kp <= l3 /\ v15 = .int .i64 kp /\ Row (Own Wf) 9 1 v14 kp ((Tt.nums (ps.take kp)).map S) A /\ Below Wf.heap.size Wf A) (fun _ v15 _ => l3 - (intOf v15).toNat)
         case atStart => exact ⟨0, Nat.zero_le _, rfl, Row.nil (Own Wf) _ _ Wf, Below.refl _ _⟩
         case round =>
          obtain ⟨kp, hkp, rfl, hrowp, hbp⟩ := hrel
          obtain ⟨wq, hwq⟩ : ∃ x, x = wr := ⟨_, rfl⟩
          rw [<- hwq] at hrowp hbp ⊢
          clear hwq
          have HBp := Lib.hid hbp
          have HRp := Lib.hid hrowp
          have cfp : wq.cell? ⟨fb, 3, none⟩ = some (.slice p3 l3 c3) := (HFf.out.1.below hbp).cell 3
          by_cases hltp : kp < l3
          case pos =>
           have hlzp : (kp : Int) < (l3 : Int) := by omega
           have hkl : kp < ps.length := by rw [HL3.out]; exact hltp
           obtain ⟨ap, rfl, cp⟩ := (HNU.out _ (below5 HBf.out hbp)).at kp hkl
           obtain ⟨px, hpx⟩ : ∃ x, ps[kp] = x := ⟨_, rfl⟩
           rw [hpx] at cp
           have HX1 : Hid (px < 9223372036854775808) := by show _ < _; rw [<- hpx]; exact HPX.out _ (List.getElem_mem hkl)
           have HS : Hid (Tt.nums (ps.take (kp + 1)) = Tt.nums (ps.take kp) ++ [Lib.decDigits px]) := by show _ = _; rw [Tt.nums_take ps kp hkl, hpx]
           clear hbp hpx hrowp
           gi_wp2_with fail
           refine (callsIn_wide.2 (lnum_any px HX1.out wq)).mono ?_
           rintro e w2 ⟨rfl, b2⟩
           have HB2 := Lib.hid (below5 HBp.out b2)
           have HR2 := Lib.hid (HRp.out.below b2)
           clear b2 cp
           gi_wp2_with (gi_at_builtin; refine append_rd (Own Wf) rfl _ _ _ Tryd.underlying35 rfl _ kp _ (by rfl) (HR2.out.alloc _) _ [Lib.decDigits px] (by rfl) (rd_row1 _ _) (by simp; omega) (by have := HB2.out.size; simp; omega) ?_; intro v' w' hrow' hgr)
           exact ⟨⟨kp + 1, hltp, by go_num, by rw [HS.out]; exact hrow', (HB2.out.alloc HB2.out.size _).grown hgr (by have := HB2.out.size; simp; omega) (fun g hg => HR2.out.2 g hg)⟩, by simp [intOf]; omega⟩
          case neg =>
           obtain rfl : kp = l3 := by omega
           have hrp := HRp.out
           rw [List.take_of_length_le (by rw [HL3.out]; exact Nat.le_refl _)] at hrp
           obtain ⟨a14, c14, rfl⟩ := hrp.form
           have hrd : Rd (.slice a14 kp c14) (Tt.nums ps) wq := by
            refine Rd.of_row (R := Own Wf) (e := 9) ?_
            rw [show (Tt.nums ps).length = kp by simp [Tt.nums]; exact HL3.out]; exact hrp
           obtain ⟨yj, hyj⟩ : ∃ y, Lib.join (Tt.nums ps) [44] = y := ⟨_, rfl⟩
           have HJ : Hid (Calls Tryd.prog 27 #[.slice a14 kp c14, S [44]] wq (Gives (S yj) wq)) := by
            have h := joined_any _ _ [44] wq hrd (by simp [Tt.nums]; have := HP20.out; omega) (by decide) (fun s hs => Nat.le_trans (Tt.nums_len HPX.out s hs) (by decide))
            rw [hyj] at h; exact h
           have HYJ : Hid (kp ≠ 0 -> yj = ye) := fun h0 => by
            have h1 : ps ≠ [] := by intro e; have := HL3.out; rw [e] at this; simp at this; omega
            have h2 := HYE.out
            unfold Tt.picks at h2
            rw [if_neg h1, hyj] at h2; exact h2
           have HYJ0 : Hid (kp = 0 -> ye = [45]) := fun h0 => by
            have h1 : ps = [] := List.length_eq_zero_iff.1 (by rw [HL3.out]; exact h0)
            have h2 := HYE.out
            unfold Tt.picks at h2
            rw [if_pos h1] at h2; exact h2.symm
           clear hrd hrp hyj hbp hrowp
           gi_wp2_with fail
           refine (callsIn_wide.2 HJ.out).mono ?_
           rintro e w_j ⟨rfl, bj⟩
           have HBj := Lib.hid (below5 HBf.out (below5 HBp.out bj))
           have HFj : Hid (Blk fb #[.int .i64 (m0 : Int), .slice p1 l1 c1, .int .i64 (m2 : Int), .slice p3 kp c3] 44 w_j /\ Blk tb3 (Tt.ends.map S).toArray 9 w_j) := ⟨HFf.out.1.below (below5 HBp.out bj), HFf.out.2.below (below5 HBp.out bj)⟩
           clear bj cfp HJ
           by_cases hh0 : kp = 0
           case pos =>
            obtain rfl : ye = [45] := HYJ0.out hh0
            have hh1 : ((kp : Int) == 0) = true := by simp [hh0]
            clear hh0 HYJ HYJ0
            gi_wp2_with fail
            have HCS : Hid (∀ W', Blk fb #[.int .i64 (m0 : Int), .slice p1 l1 c1, .int .i64 (m2 : Int), .slice p3 kp c3] 44 W' /\ Blk tb3 (Tt.ends.map S).toArray 9 W' -> Cs [(⟨fb, 0, none⟩, Value.int .i64 (m0 : Int)), (⟨fb, 1, none⟩, Value.slice p1 l1 c1), (⟨fb, 2, none⟩, Value.int .i64 (m2 : Int)), (⟨fb, 3, none⟩, Value.slice p3 kp c3), (⟨tb3, m0, none⟩, S y0)] W') := fun W' h => ⟨h.1.cell 0, h.1.cell 1, h.1.cell 2, h.1.cell 3, by
             rw [h.2.cell m0]
             have h1 := HY0.out
             unfold Tt.wd at h1
             have h2 : m0 < Tt.ends.length := HMK.out
             rw [List.getElem?_eq_getElem h2, Option.getD_some] at h1
             simp [h2, h1], trivial⟩
            refine drawnH [3, 5, 6, 7, 9, 10, 11, 12, 14, 15, 16, 17, 19, 20, 21] (Cs [(⟨fb, 0, none⟩, Value.int .i64 (m0 : Int)), (⟨fb, 1, none⟩, Value.slice p1 l1 c1), (⟨fb, 2, none⟩, Value.int .i64 (m2 : Int)), (⟨fb, 3, none⟩, Value.slice p3 kp c3), (⟨tb3, m0, none⟩, S y0)]) 23 rfl (by kernel_rfl) ?_
            intro w' hw'
            have hb : Below w_j.heap.size w_j w' := by subst hw'; exact (Below.refl _ _).drew
            have HB_0 := Lib.hid (below5 HBj.out hb)
            have HF_0 : Hid (Blk fb #[.int .i64 (m0 : Int), .slice p1 l1 c1, .int .i64 (m2 : Int), .slice p3 kp c3] 44 w' /\ Blk tb3 (Tt.ends.map S).toArray 9 w') := ⟨HFj.out.1.below hb, HFj.out.2.below hb⟩
            have hS := HCS.out w' HF_0.out
            clear hw' hb
            refine tP 0 ?qs1v0 (fun w1 _ => ?qs1y0) ?_
            case qs1y0 => (go_simp; try first | rfl | (rw [if_pos (by omega)]) | (rw [if_neg (by omega)]) | (rw [if_neg (by simp; omega)]) | (split <;> first | (exfalso; omega) | rfl))
            refine tP 1 ?qs1v1 (fun w1 _ => ?qs1y1) ?_
            case qs1y1 => (go_simp; try first | rfl | (rw [if_pos (by omega)]) | (rw [if_neg (by omega)]) | (rw [if_neg (by simp; omega)]) | (split <;> first | (exfalso; omega) | rfl))
            refine tP 2 ?qs1v2 (fun w1 _ => ?qs1y2) ?_
            case qs1y2 => (go_simp; try first | rfl | (rw [if_pos (by omega)]) | (rw [if_neg (by omega)]) | (rw [if_neg (by simp; omega)]) | (split <;> first | (exfalso; omega) | rfl))
            refine tP 8 ?qs1v8 (fun w1 _ => ?qs1y8) ?_
            case qs1y8 => (go_simp; try first | rfl | (rw [if_pos (by omega)]) | (rw [if_neg (by omega)]) | (rw [if_neg (by simp; omega)]) | (split <;> first | (exfalso; omega) | rfl))
            refine tP 13 ?qs1v13 (fun w1 _ => ?qs1y13) ?_
            case qs1y13 => (go_simp; try first | rfl | (rw [if_pos (by omega)]) | (rw [if_neg (by omega)]) | (rw [if_neg (by simp; omega)]) | (split <;> first | (exfalso; omega) | rfl))
            refine tP 18 ?qs1v18 (fun w1 _ => ?qs1y18) ?_
            case qs1y18 => (go_simp; try first | rfl | (rw [if_pos (by omega)]) | (rw [if_neg (by omega)]) | (rw [if_neg (by simp; omega)]) | (split <;> first | (exfalso; omega) | rfl))
            simp only [Act.put, List.setIfInBounds_toArray, List.set_cons_succ, List.set_cons_zero]
            refine tH 3 ?qs1v3 hS (fun w1 ⟨x0, x1, x2, x3, x4, _⟩ => ?qs1y3) ?_
            case qs1y3 => (go_simp; try first | rfl | (rw [if_pos (by omega)]) | (rw [if_neg (by omega)]) | (rw [if_neg (by simp; omega)]) | (split <;> first | (exfalso; omega) | rfl))
            simp only [Act.put, List.setIfInBounds_toArray, List.set_cons_succ, List.set_cons_zero]
            refine tP 4 ?qs1v4 (fun w1 _ => ?qs1y4) ?_
            case qs1y4 => (go_simp; try first | rfl | (rw [if_pos (by omega)]) | (rw [if_neg (by omega)]) | (rw [if_neg (by simp; omega)]) | (split <;> first | (exfalso; omega) | rfl))
            simp only [Act.put, List.setIfInBounds_toArray, List.set_cons_succ, List.set_cons_zero]
            refine tH 5 ?qs1v5 hS (fun w1 ⟨x0, x1, x2, x3, x4, _⟩ => ?qs1y5) ?_
            case qs1y5 => (go_simp; try first | rfl | (rw [if_pos (by omega)]) | (rw [if_neg (by omega)]) | (rw [if_neg (by simp; omega)]) | (split <;> first | (exfalso; omega) | rfl))
            simp only [Act.put, List.setIfInBounds_toArray, List.set_cons_succ, List.set_cons_zero]
            refine tH 6 ?qs1v6 hS (fun w1 ⟨x0, x1, x2, x3, x4, _⟩ => ?qs1y6) ?_
            case qs1y6 => (go_simp; try first | rfl | (rw [if_pos (by omega)]) | (rw [if_neg (by omega)]) | (rw [if_neg (by simp; omega)]) | (split <;> first | (exfalso; omega) | rfl))
            refine tH 7 ?qs1v7 hS (fun w1 ⟨x0, x1, x2, x3, x4, _⟩ => ?qs1y7) ?_
            case qs1y7 => (go_simp; try first | rfl | (rw [if_pos (by omega)]) | (rw [if_neg (by omega)]) | (rw [if_neg (by simp; omega)]) | (split <;> first | (exfalso; omega) | rfl))
            simp only [Act.put, List.setIfInBounds_toArray, List.set_cons_succ, List.set_cons_zero]
            refine tH 9 ?qs1v9 hS (fun w1 ⟨x0, x1, x2, x3, x4, _⟩ => ?qs1y9) ?_
            case qs1y9 => (go_simp; try first | rfl | (rw [if_pos (by omega)]) | (rw [if_neg (by omega)]) | (rw [if_neg (by simp; omega)]) | (split <;> first | (exfalso; omega) | rfl))
            refine tH 14 ?qs1v14 hS (fun w1 ⟨x0, x1, x2, x3, x4, _⟩ => ?qs1y14) ?_
            case qs1y14 => (go_simp; try first | rfl | (rw [if_pos (by omega)]) | (rw [if_neg (by omega)]) | (rw [if_neg (by simp; omega)]) | (split <;> first | (exfalso; omega) | rfl))
            simp only [Act.put, List.setIfInBounds_toArray, List.set_cons_succ, List.set_cons_zero]
            clear hS
            refine oneH 10 (by rfl) (by kernel_rfl) (fun K hK => ?_)
            gi_wp2_with (gi_at_call 25; refine (callsIn_wide.2 (H1.out _ HB_0.out)).mono ?_; rintro e w_1 ⟨rfl, b2⟩)
            have HB_1 := Lib.hid (below5 HB_0.out b2)
            have HF_1 : Hid (Blk fb #[.int .i64 (m0 : Int), .slice p1 l1 c1, .int .i64 (m2 : Int), .slice p3 kp c3] 44 w_1 /\ Blk tb3 (Tt.ends.map S).toArray 9 w_1) := ⟨HF_0.out.1.below b2, HF_0.out.2.below b2⟩
            refine hK _ _ (fun _ => HCS.out _ HF_1.out) ?_
            have hS := HCS.out _ HF_1.out
            clear hK K b2
            refine tH 11 ?qs1v11 hS (fun w1 ⟨x0, x1, x2, x3, x4, _⟩ => ?qs1y11) ?_
            case qs1y11 => (go_simp; try first | rfl | (rw [if_pos (by omega)]) | (rw [if_neg (by omega)]) | (rw [if_neg (by simp; omega)]) | (split <;> first | (exfalso; omega) | rfl))
            refine tH 12 ?qs1v12 hS (fun w1 ⟨x0, x1, x2, x3, x4, _⟩ => ?qs1y12) ?_
            case qs1y12 => (go_simp; try first | rfl | (rw [if_pos (by omega)]) | (rw [if_neg (by omega)]) | (rw [if_neg (by simp; omega)]) | (split <;> first | (exfalso; omega) | rfl))
            simp only [Act.put, List.setIfInBounds_toArray, List.set_cons_succ, List.set_cons_zero]
            clear hS
            refine oneH 15 (by rfl) (by kernel_rfl) (fun K hK => ?_)
            gi_wp2_with (gi_at_call 19; refine (callsIn_wide.2 (H2.out _ HB_1.out)).mono ?_; rintro e w_2 ⟨rfl, b2⟩)
            have HB_2 := Lib.hid (below5 HB_1.out b2)
            have HF_2 : Hid (Blk fb #[.int .i64 (m0 : Int), .slice p1 l1 c1, .int .i64 (m2 : Int), .slice p3 kp c3] 44 w_2 /\ Blk tb3 (Tt.ends.map S).toArray 9 w_2) := ⟨HF_1.out.1.below b2, HF_1.out.2.below b2⟩
            refine hK _ _ (fun _ => HCS.out _ HF_2.out) ?_
            have hS := HCS.out _ HF_2.out
            clear hK K b2
            refine tH 16 ?qs1v16 hS (fun w1 ⟨x0, x1, x2, x3, x4, _⟩ => ?qs1y16) ?_
            case qs1y16 => (go_simp; try first | rfl | (rw [if_pos (by omega)]) | (rw [if_neg (by omega)]) | (rw [if_neg (by simp; omega)]) | (split <;> first | (exfalso; omega) | rfl))
            refine tH 17 ?qs1v17 hS (fun w1 ⟨x0, x1, x2, x3, x4, _⟩ => ?qs1y17) ?_
            case qs1y17 => (go_simp; try first | rfl | (rw [if_pos (by omega)]) | (rw [if_neg (by omega)]) | (rw [if_neg (by simp; omega)]) | (split <;> first | (exfalso; omega) | rfl))
            refine tH 19 ?qs1v19 hS (fun w1 ⟨x0, x1, x2, x3, x4, _⟩ => ?qs1y19) ?_
            case qs1y19 => (go_simp; try first | rfl | (rw [if_pos (by omega)]) | (rw [if_neg (by omega)]) | (rw [if_neg (by simp; omega)]) | (split <;> first | (exfalso; omega) | rfl))
            simp only [Act.put, List.setIfInBounds_toArray, List.set_cons_succ, List.set_cons_zero]
            clear hS
            simp only [append_S]
            rw [HYL.out]
            have hba : Below w_2.heap.size w_2 (w_2.alloc (.cells #[S yl] 9)) := (Below.refl _ _).alloc (Nat.le_refl _) _
            have HLB := Lib.hid (HL.out.on (below5 HB_2.out hba))
            have HSZ : Hid ((fun g => w.heap.size < g /\ g ≠ tb3) (w_2.alloc (.cells #[S yl] 9)).heap.size) := by
             have h1 := HLB.out.rb.lt
             have h2 := HLB.out.tab.lt
             exact ⟨h1, fun e => by rw [<- e] at h2; exact Nat.lt_irrefl _ h2⟩
            clear hba
            refine oneH 20 (by rfl) (by kernel_rfl) (fun K hK => ?_)
            gi_wp2_with fail
            refine hK _ _ (fun _ => HCS.out _ ⟨HF_2.out.1.alloc _, HF_2.out.2.alloc _⟩) ?_
            clear hK K
            refine oneH 21 (by rfl) (by kernel_rfl) (fun K hK => ?_)
            gi_wp2_with (gi_at_builtin; refine append_rd (fun g => w.heap.size < g /\ g ≠ tb3) rfl _ _ _ Tryd.underlying35 rfl _ ((ne + nf + ng) + k) _ (by rfl) HLB.out.row _ [yl] (by rfl) (rd_row1 _ _) (by simp; omega) HSZ.out ?_; intro v' w' hrow' hgr)
            obtain ⟨a4, c4, rfl⟩ := hrow'.form
            have HL2 := Lib.hid (HLB.out.push hrow' hgr)
            have HCF := Lib.hid (HCS.out w' ⟨(HF_2.out.1.alloc _).rowKeep HLB.out.row hgr (by decide), HL2.out.tab⟩)
            refine hK _ _ (fun _ => HCF.out) ?_
            clear hK K hrow' hgr HLB HSZ
            refine oneH 22 (by rfl) (by kernel_rfl) (fun K hK => ?_)
            gi_wp2_with fail
            refine hK _ _ (fun h => absurd h (by decide)) ?_
            clear hK K
            refine doneH (by kernel_rfl) ?_
            gi_wp2_with fail
            exact ⟨⟨k + 1, a4, c4, hlt, by go_num, rfl, by rw [HNX.out, <- List.append_assoc, HY.out]; exact HL2⟩, by simp [intOf]; omega⟩
           case neg =>
            obtain rfl : yj = ye := HYJ.out hh0
            have hh1 : ((kp : Int) == 0) = false := by simp; omega
            clear hh0 HYJ HYJ0
            gi_wp2_with fail
            have HCS : Hid (∀ W', Blk fb #[.int .i64 (m0 : Int), .slice p1 l1 c1, .int .i64 (m2 : Int), .slice p3 kp c3] 44 W' /\ Blk tb3 (Tt.ends.map S).toArray 9 W' -> Cs [(⟨fb, 0, none⟩, Value.int .i64 (m0 : Int)), (⟨fb, 1, none⟩, Value.slice p1 l1 c1), (⟨fb, 2, none⟩, Value.int .i64 (m2 : Int)), (⟨fb, 3, none⟩, Value.slice p3 kp c3), (⟨tb3, m0, none⟩, S y0)] W') := fun W' h => ⟨h.1.cell 0, h.1.cell 1, h.1.cell 2, h.1.cell 3, by
             rw [h.2.cell m0]
             have h1 := HY0.out
             unfold Tt.wd at h1
             have h2 : m0 < Tt.ends.length := HMK.out
             rw [List.getElem?_eq_getElem h2, Option.getD_some] at h1
             simp [h2, h1], trivial⟩
            refine drawnH [3, 5, 6, 7, 9, 10, 11, 12, 14, 15, 16, 17, 19, 20, 21] (Cs [(⟨fb, 0, none⟩, Value.int .i64 (m0 : Int)), (⟨fb, 1, none⟩, Value.slice p1 l1 c1), (⟨fb, 2, none⟩, Value.int .i64 (m2 : Int)), (⟨fb, 3, none⟩, Value.slice p3 kp c3), (⟨tb3, m0, none⟩, S y0)]) 23 rfl (by kernel_rfl) ?_
            intro w' hw'
            have hb : Below w_j.heap.size w_j w' := by subst hw'; exact (Below.refl _ _).drew
            have HB_0 := Lib.hid (below5 HBj.out hb)
            have HF_0 : Hid (Blk fb #[.int .i64 (m0 : Int), .slice p1 l1 c1, .int .i64 (m2 : Int), .slice p3 kp c3] 44 w' /\ Blk tb3 (Tt.ends.map S).toArray 9 w') := ⟨HFj.out.1.below hb, HFj.out.2.below hb⟩
            have hS := HCS.out w' HF_0.out
            clear hw' hb
            refine tP 0 ?qs2v0 (fun w1 _ => ?qs2y0) ?_
            case qs2y0 => (go_simp; try first | rfl | (rw [if_pos (by omega)]) | (rw [if_neg (by omega)]) | (rw [if_neg (by simp; omega)]) | (split <;> first | (exfalso; omega) | rfl))
            refine tP 1 ?qs2v1 (fun w1 _ => ?qs2y1) ?_
            case qs2y1 => (go_simp; try first | rfl | (rw [if_pos (by omega)]) | (rw [if_neg (by omega)]) | (rw [if_neg (by simp; omega)]) | (split <;> first | (exfalso; omega) | rfl))
            refine tP 2 ?qs2v2 (fun w1 _ => ?qs2y2) ?_
            case qs2y2 => (go_simp; try first | rfl | (rw [if_pos (by omega)]) | (rw [if_neg (by omega)]) | (rw [if_neg (by simp; omega)]) | (split <;> first | (exfalso; omega) | rfl))
            refine tP 8 ?qs2v8 (fun w1 _ => ?qs2y8) ?_
            case qs2y8 => (go_simp; try first | rfl | (rw [if_pos (by omega)]) | (rw [if_neg (by omega)]) | (rw [if_neg (by simp; omega)]) | (split <;> first | (exfalso; omega) | rfl))
            refine tP 13 ?qs2v13 (fun w1 _ => ?qs2y13) ?_
            case qs2y13 => (go_simp; try first | rfl | (rw [if_pos (by omega)]) | (rw [if_neg (by omega)]) | (rw [if_neg (by simp; omega)]) | (split <;> first | (exfalso; omega) | rfl))
            refine tP 18 ?qs2v18 (fun w1 _ => ?qs2y18) ?_
            case qs2y18 => (go_simp; try first | rfl | (rw [if_pos (by omega)]) | (rw [if_neg (by omega)]) | (rw [if_neg (by simp; omega)]) | (split <;> first | (exfalso; omega) | rfl))
            simp only [Act.put, List.setIfInBounds_toArray, List.set_cons_succ, List.set_cons_zero]
            refine tH 3 ?qs2v3 hS (fun w1 ⟨x0, x1, x2, x3, x4, _⟩ => ?qs2y3) ?_
            case qs2y3 => (go_simp; try first | rfl | (rw [if_pos (by omega)]) | (rw [if_neg (by omega)]) | (rw [if_neg (by simp; omega)]) | (split <;> first | (exfalso; omega) | rfl))
            simp only [Act.put, List.setIfInBounds_toArray, List.set_cons_succ, List.set_cons_zero]
            refine tP 4 ?qs2v4 (fun w1 _ => ?qs2y4) ?_
            case qs2y4 => (go_simp; try first | rfl | (rw [if_pos (by omega)]) | (rw [if_neg (by omega)]) | (rw [if_neg (by simp; omega)]) | (split <;> first | (exfalso; omega) | rfl))
            simp only [Act.put, List.setIfInBounds_toArray, List.set_cons_succ, List.set_cons_zero]
            refine tH 5 ?qs2v5 hS (fun w1 ⟨x0, x1, x2, x3, x4, _⟩ => ?qs2y5) ?_
            case qs2y5 => (go_simp; try first | rfl | (rw [if_pos (by omega)]) | (rw [if_neg (by omega)]) | (rw [if_neg (by simp; omega)]) | (split <;> first | (exfalso; omega) | rfl))
            simp only [Act.put, List.setIfInBounds_toArray, List.set_cons_succ, List.set_cons_zero]
            refine tH 6 ?qs2v6 hS (fun w1 ⟨x0, x1, x2, x3, x4, _⟩ => ?qs2y6) ?_
            case qs2y6 => (go_simp; try first | rfl | (rw [if_pos (by omega)]) | (rw [if_neg (by omega)]) | (rw [if_neg (by simp; omega)]) | (split <;> first | (exfalso; omega) | rfl))
            refine tH 7 ?qs2v7 hS (fun w1 ⟨x0, x1, x2, x3, x4, _⟩ => ?qs2y7) ?_
            case qs2y7 => (go_simp; try first | rfl | (rw [if_pos (by omega)]) | (rw [if_neg (by omega)]) | (rw [if_neg (by simp; omega)]) | (split <;> first | (exfalso; omega) | rfl))
            simp only [Act.put, List.setIfInBounds_toArray, List.set_cons_succ, List.set_cons_zero]
            refine tH 9 ?qs2v9 hS (fun w1 ⟨x0, x1, x2, x3, x4, _⟩ => ?qs2y9) ?_
            case qs2y9 => (go_simp; try first | rfl | (rw [if_pos (by omega)]) | (rw [if_neg (by omega)]) | (rw [if_neg (by simp; omega)]) | (split <;> first | (exfalso; omega) | rfl))
            refine tH 14 ?qs2v14 hS (fun w1 ⟨x0, x1, x2, x3, x4, _⟩ => ?qs2y14) ?_
            case qs2y14 => (go_simp; try first | rfl | (rw [if_pos (by omega)]) | (rw [if_neg (by omega)]) | (rw [if_neg (by simp; omega)]) | (split <;> first | (exfalso; omega) | rfl))
            simp only [Act.put, List.setIfInBounds_toArray, List.set_cons_succ, List.set_cons_zero]
            clear hS
            refine oneH 10 (by rfl) (by kernel_rfl) (fun K hK => ?_)
            gi_wp2_with (gi_at_call 25; refine (callsIn_wide.2 (H1.out _ HB_0.out)).mono ?_; rintro e w_1 ⟨rfl, b2⟩)
            have HB_1 := Lib.hid (below5 HB_0.out b2)
            have HF_1 : Hid (Blk fb #[.int .i64 (m0 : Int), .slice p1 l1 c1, .int .i64 (m2 : Int), .slice p3 kp c3] 44 w_1 /\ Blk tb3 (Tt.ends.map S).toArray 9 w_1) := ⟨HF_0.out.1.below b2, HF_0.out.2.below b2⟩
            refine hK _ _ (fun _ => HCS.out _ HF_1.out) ?_
            have hS := HCS.out _ HF_1.out
            clear hK K b2
            refine tH 11 ?qs2v11 hS (fun w1 ⟨x0, x1, x2, x3, x4, _⟩ => ?qs2y11) ?_
            case qs2y11 => (go_simp; try first | rfl | (rw [if_pos (by omega)]) | (rw [if_neg (by omega)]) | (rw [if_neg (by simp; omega)]) | (split <;> first | (exfalso; omega) | rfl))
            refine tH 12 ?qs2v12 hS (fun w1 ⟨x0, x1, x2, x3, x4, _⟩ => ?qs2y12) ?_
            case qs2y12 => (go_simp; try first | rfl | (rw [if_pos (by omega)]) | (rw [if_neg (by omega)]) | (rw [if_neg (by simp; omega)]) | (split <;> first | (exfalso; omega) | rfl))
            simp only [Act.put, List.setIfInBounds_toArray, List.set_cons_succ, List.set_cons_zero]
            clear hS
            refine oneH 15 (by rfl) (by kernel_rfl) (fun K hK => ?_)
            gi_wp2_with (gi_at_call 19; refine (callsIn_wide.2 (H2.out _ HB_1.out)).mono ?_; rintro e w_2 ⟨rfl, b2⟩)
            have HB_2 := Lib.hid (below5 HB_1.out b2)
            have HF_2 : Hid (Blk fb #[.int .i64 (m0 : Int), .slice p1 l1 c1, .int .i64 (m2 : Int), .slice p3 kp c3] 44 w_2 /\ Blk tb3 (Tt.ends.map S).toArray 9 w_2) := ⟨HF_1.out.1.below b2, HF_1.out.2.below b2⟩
            refine hK _ _ (fun _ => HCS.out _ HF_2.out) ?_
            have hS := HCS.out _ HF_2.out
            clear hK K b2
            refine tH 16 ?qs2v16 hS (fun w1 ⟨x0, x1, x2, x3, x4, _⟩ => ?qs2y16) ?_
            case qs2y16 => (go_simp; try first | rfl | (rw [if_pos (by omega)]) | (rw [if_neg (by omega)]) | (rw [if_neg (by simp; omega)]) | (split <;> first | (exfalso; omega) | rfl))
            refine tH 17 ?qs2v17 hS (fun w1 ⟨x0, x1, x2, x3, x4, _⟩ => ?qs2y17) ?_
            case qs2y17 => (go_simp; try first | rfl | (rw [if_pos (by omega)]) | (rw [if_neg (by omega)]) | (rw [if_neg (by simp; omega)]) | (split <;> first | (exfalso; omega) | rfl))
            refine tH 19 ?qs2v19 hS (fun w1 ⟨x0, x1, x2, x3, x4, _⟩ => ?qs2y19) ?_
            case qs2y19 => (go_simp; try first | rfl | (rw [if_pos (by omega)]) | (rw [if_neg (by omega)]) | (rw [if_neg (by simp; omega)]) | (split <;> first | (exfalso; omega) | rfl))
            simp only [Act.put, List.setIfInBounds_toArray, List.set_cons_succ, List.set_cons_zero]
            clear hS
            simp only [append_S]
            rw [HYL.out]
            have hba : Below w_2.heap.size w_2 (w_2.alloc (.cells #[S yl] 9)) := (Below.refl _ _).alloc (Nat.le_refl _) _
            have HLB := Lib.hid (HL.out.on (below5 HB_2.out hba))
            have HSZ : Hid ((fun g => w.heap.size < g /\ g ≠ tb3) (w_2.alloc (.cells #[S yl] 9)).heap.size) := by
             have h1 := HLB.out.rb.lt
             have h2 := HLB.out.tab.lt
             exact ⟨h1, fun e => by rw [<- e] at h2; exact Nat.lt_irrefl _ h2⟩
            clear hba
            refine oneH 20 (by rfl) (by kernel_rfl) (fun K hK => ?_)
            gi_wp2_with fail
            refine hK _ _ (fun _ => HCS.out _ ⟨HF_2.out.1.alloc _, HF_2.out.2.alloc _⟩) ?_
            clear hK K
            refine oneH 21 (by rfl) (by kernel_rfl) (fun K hK => ?_)
            gi_wp2_with (gi_at_builtin; refine append_rd (fun g => w.heap.size < g /\ g ≠ tb3) rfl _ _ _ Tryd.underlying35 rfl _ ((ne + nf + ng) + k) _ (by rfl) HLB.out.row _ [yl] (by rfl) (rd_row1 _ _) (by simp; omega) HSZ.out ?_; intro v' w' hrow' hgr)
            obtain ⟨a4, c4, rfl⟩ := hrow'.form
            have HL2 := Lib.hid (HLB.out.push hrow' hgr)
            have HCF := Lib.hid (HCS.out w' ⟨(HF_2.out.1.alloc _).rowKeep HLB.out.row hgr (by decide), HL2.out.tab⟩)
            refine hK _ _ (fun _ => HCF.out) ?_
            clear hK K hrow' hgr HLB HSZ
            refine oneH 22 (by rfl) (by kernel_rfl) (fun K hK => ?_)
            gi_wp2_with fail
            refine hK _ _ (fun h => absurd h (by decide)) ?_
            clear hK K
            refine doneH (by kernel_rfl) ?_
            gi_wp2_with fail
            exact ⟨⟨k + 1, a4, c4, hlt, by go_num, rfl, by rw [HNX.out, <- List.append_assoc, HY.out]; exact HL2⟩, by simp [intOf]; omega⟩
        case neg =>
         obtain rfl : ns = k := by omega
         have hlz : ¬ ((ns : Int) < (ns : Int)) := by omega
         have hl := HL.out
         rw [List.take_of_length_le (by rw [HNS.out]; exact Nat.le_refl _)] at hl
         have HM := Lib.hid hl
         clear hl HL
         have c4 : wr.cell? ⟨B, 4, none⟩ = some (.int .i64 ev) := by rw [<- HB.out]; exact HM.out.rb.cell 4
         have HLI : Hid (Tt.lines r = ((((r.es.map fun x => Tt.jn (Tt.erRow x)) ++ r.fs.map fun x => Tt.jn (Tt.flRow x)) ++ r.gs.map fun x => Tt.jn (Tt.egRow x)) ++ r.ss.map fun x => Tt.jn (Tt.seRow x)) ++ (Tt.endRow r.err).map Tt.jn) := by
          show _ = _
          unfold Tt.lines Tt.rows
          simp only [List.map_append, List.map_map, Function.comp_def, List.append_assoc]
         have HLN : Hid ((((((r.es.map fun x => Tt.jn (Tt.erRow x)) ++ r.fs.map fun x => Tt.jn (Tt.flRow x)) ++ r.gs.map fun x => Tt.jn (Tt.egRow x)) ++ r.ss.map fun x => Tt.jn (Tt.seRow x))).length = ne + nf + ng + ns) := by
          show _ = _
          simp only [List.length_append, List.length_map]
          rw [HNE.out, HNF.out, HNG.out, HNS.out]
         by_cases h0 : ev = 0
         case pos =>
          subst h0
          have hz0 : ((0 : Int) != 0) = false := by decide
          have HRD : Hid (Rd (.slice a3 (ne + nf + ng + ns) c3) (Tt.lines r) wr) := by
           show Rd _ _ _
           rw [HLI.out, HEV.out, show Tt.endRow 0 = [] from rfl, List.map_nil, List.append_nil]
           refine Rd.of_row (R := fun g => w.heap.size < g /\ g ≠ tb3) (e := 9) ?_
           rw [HLN.out]; exact HM.out.row
          have HBE := Lib.hid HM.out.below
          clear HM
          gi_wp2_with fail
          go_ret
          exact ⟨_, rfl, HRD.out, HBE.out⟩
         case neg =>
          have hn0 : (ev != 0) = true := by simpa using h0
          obtain ⟨m2, rfl⟩ : ∃ m : Nat, ev = m := ⟨ev.toNat, by have := HOK.out.r0; have := HEV.out; omega⟩
          have hm2l : m2 < 13 := by have := HOK.out.r1; have := HEV.out; omega
          obtain ⟨y, hy⟩ : ∃ y, Tt.wd Tt.errs m2 = y := ⟨_, rfl⟩
          have hyl : y.length <= 5000000 := Nat.le_trans (show y.length <= 10 by rw [<- hy]; exact Tt.wd_len Tt.errs_len) (by decide)
          have HLI2 : Hid (Tt.lines r = ((((r.es.map fun x => Tt.jn (Tt.erRow x)) ++ r.fs.map fun x => Tt.jn (Tt.flRow x)) ++ r.gs.map fun x => Tt.jn (Tt.egRow x)) ++ r.ss.map fun x => Tt.jn (Tt.seRow x)) ++ [[115, 116, 111, 112, 112, 101, 100, 32] ++ y]) := by
           show _ = _
           rw [HLI.out]
           unfold Tt.endRow
           rw [HEV.out, if_neg h0, Int.toNat_natCast, hy]; simp [Tt.jn, Lib.join_cons, Lib.joinTail]
          have HC : Hid (∀ W', Calls Tryd.prog 28 #[.int .i64 (m2 : Int)] W' (Gives (S y) W')) := fun W' => by
           have h := refErrWord_any m2 hm2l W'
           rw [<- Tt.wd_at (t := Tt.errs) hm2l, hy] at h; exact h
          clear hy h0
          gi_wp2_with fail
          refine (callsIn_wide.2 (HC.out _)).mono ?_
          rintro e w2 ⟨rfl, b2⟩
          have hba : Below w2.heap.size w2 (w2.alloc (.cells #[S ([115, 116, 111, 112, 112, 101, 100, 32] ++ y)] 9)) := (Below.refl _ _).alloc (Nat.le_refl _) _
          have HLB := Lib.hid (HM.out.on (below5 b2 hba))
          have HSZ : Hid ((fun g => w.heap.size < g /\ g ≠ tb3) (w2.alloc (.cells #[S ([115, 116, 111, 112, 112, 101, 100, 32] ++ y)] 9)).heap.size) := by
           have h1 := HLB.out.rb.lt
           have h2 := HLB.out.tab.lt
           exact ⟨h1, fun e => by rw [<- e] at h2; exact Nat.lt_irrefl _ h2⟩
          clear b2 hba HC c4
          gi_wp2_with (gi_at_builtin; first | rw [append_S] | skip; refine append_rd (fun g => w.heap.size < g /\ g ≠ tb3) rfl _ _ _ Tryd.underlying35 rfl _ (ne + nf + ng + ns) _ (by rfl) HLB.out.row _ [[115, 116, 111, 112, 112, 101, 100, 32] ++ y] (by rfl) (rd_row1 _ _) (by simp; omega) HSZ.out ?_; intro v' w' hrow' hgr)
          obtain ⟨a4, c4, rfl⟩ := hrow'.form
          have HRD : Hid (Rd (.slice a4 (ne + nf + ng + ns + 1) c4) (Tt.lines r) w') := by
           show Rd _ _ _
           rw [HLI2.out]
           refine Rd.of_row (R := fun g => w.heap.size < g /\ g ≠ tb3) (e := 9) ?_
           rw [List.length_append, HLN.out]; exact hrow'
          have HBE := Lib.hid (HLB.out.push hrow' hgr).below
          clear hrow' hgr HLB HSZ HM
          gi_wp2_with fail
          go_ret
          exact ⟨_, rfl, HRD.out, HBE.out⟩
end Go.Proofs.YtjhibbjafjhhjaaDoor
