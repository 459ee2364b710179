/- The reference: texts joined; the text of data. -/
import Derived.Test.YtgmbefolgppmdaaGreatDoorKTwH
import Derived.Test.YtgmbefolgppmdaaGreatDoorKReg
import Derived.Test.YtgmbefolgppmdaaGreatDoorKTxF
section
namespace Go.Proofs.YtgmbefolgppmdaaGreatDoor
open Go.RowKit Go.Shelf Go.Sort
set_option maxRecDepth 100000
namespace Tw
def joinTo : List (List UInt8) -> Nat -> List UInt8 -> List UInt8
 | l, k, sep => Lib.join (l.take k) sep
theorem joinTail_snoc (sep : List UInt8) (l : List (List UInt8)) (x : List UInt8) : Lib.joinTail sep (l ++ [x]) = Lib.joinTail sep l ++ (sep ++ x) := by
 simp [Lib.joinTail]
theorem join_snoc (l : List (List UInt8)) (x sep : List UInt8) (h : l ≠ []) : Lib.join (l ++ [x]) sep = Lib.join l sep ++ sep ++ x := by
 cases l with
 | nil => exact absurd rfl h
 | cons y r =>
  rw [List.cons_append, Lib.join_cons, Lib.join_cons, joinTail_snoc]; simp
theorem join_one (x sep : List UInt8) : Lib.join [x] sep = x := by rw [Lib.join_cons]; simp [Lib.joinTail]
theorem join_take (l : List (List UInt8)) (sep : List UInt8) (k : Nat) (h : k < l.length) (h0 : 0 < k) : Lib.join (l.take (k + 1)) sep = Lib.join (l.take k) sep ++ sep ++ l[k] := by
 rw [List.take_succ_eq_append_getElem h]
 refine join_snoc _ _ _ ?_
 intro e
 have := congrArg List.length e
 rw [List.length_take, List.length_nil] at this
 omega
end Tw
set_option maxHeartbeats 4000000 in
theorem joined2_any (v : Value) (l : List (List UInt8)) (sep : List UInt8) (w : World) (hv : Rd v l w) (hl : l.length <= 60) (hs : sep.length <= 100) (hx : ∀ s ∈ l, s.length <= 5000000) :
  Calls Tryz.prog 74 #[v, S sep] w (Gives (S (Lib.join l sep)) w) := by
 obtain ⟨o, cap, rfl, h1, h2⟩ := hv.form
 have HC := Lib.hid hv.cells
 have lz : (l.length : Int) <= 60 := by omega
 have HGL : Hid (∀ k, (Lib.join (l.take k) sep).length <= 310000000) := fun k => by
  have h3 := Tx.join_len (l := l.take k) (sep := sep) (fun s hs => hx s (List.mem_of_mem_take hs))
  have h4 : (l.take k).length <= 60 := by rw [List.length_take]; omega
  have h5 := Nat.mul_le_mul h4 (show 5000000 + sep.length <= 5000100 by omega)
  omega
 have HX := Lib.hid hx
 clear hv hx
 refine (callsIn_wide (n := 0)).1 ?_
 refine callsIn_of_wp Tryz.func74 rfl trivial ?_ rfl
 simp only [Tryz.ntmps74, List.size_toArray, List.length_cons, List.length_nil, Nat.reduceAdd, Nat.reduceSub, Array.replicate_succ, Array.replicate_zero, List.push_toArray, List.append_toArray, List.nil_append, List.cons_append]
 gi_wp2_with fail
 gi_loopw [5, 6] (fun v5 v6 W => ∃ k : Nat, k <= l.length /\ v6 = .int .i64 k /\ v5 = S (Lib.join (l.take k) sep) /\ Below w.heap.size w W) (fun _ v6 _ => l.length - (intOf v6).toNat)
 case atStart => exact ⟨0, Nat.zero_le _, rfl, by rw [List.take_zero, Lib.join_nil], Below.refl _ _⟩
 case round =>
  obtain ⟨k, hk, rfl, rfl, hb⟩ := hrel
  have HB := Lib.hid hb
  obtain ⟨r, hr⟩ : ∃ r, Lib.join (l.take k) sep = r := ⟨_, rfl⟩
  have hrl : r.length <= 310000000 := by rw [<- hr]; exact HGL.out k
  rw [hr]
  have HR := Lib.hid hr
  clear hr
  by_cases hlt : k < l.length
  case pos =>
   have hlz : (k : Int) < (l.length : Int) := by omega
   obtain ⟨a, rfl, c1⟩ := HC.out _ hb k hlt
   obtain ⟨x, hx⟩ : ∃ x, l[k] = x := ⟨_, rfl⟩
   rw [hx] at c1
   have hxl : x.length <= 5000000 := by rw [<- hx]; exact HX.out _ (List.getElem_mem hlt)
   by_cases h0 : 0 < k
   ·have h0z : (0 : Int) < (k : Int) := by omega
    have HS : Hid (Lib.join (l.take (k + 1)) sep = r ++ sep ++ x) := by show _ = _; rw [Tw.join_take l sep k hlt h0, HR.out, hx]
    clear hb hx
    gi_wp2_with fail
    exact ⟨⟨k + 1, hlt, by go_num, by rw [HS.out]; show Value.string _ = Value.string _; congr 2, HB.out⟩, by simp [intOf]; omega⟩
   ·obtain rfl : k = 0 := by omega
    have HS : Hid (Lib.join (l.take (0 + 1)) sep = x /\ r = []) := by
     refine ⟨?_, ?_⟩
     ·rw [List.take_succ_eq_append_getElem hlt, List.take_zero, List.nil_append, Tw.join_one, hx]
     ·rw [<- HR.out, List.take_zero, Lib.join_nil]
    have h0a : a.add 0 = a := by unfold Addr.add; simp
    rw [h0a] at c1
    clear hb hx
    gi_wp2_with fail
    exact ⟨⟨0 + 1, hlt, by go_num, by rw [HS.out.1, HS.out.2]; rfl, HB.out⟩, by simp [intOf]; omega⟩
  case neg =>
   obtain rfl : k = l.length := by omega
   have hlz : ¬ ((l.length : Int) < (l.length : Int)) := by omega
   have HE : Hid (Lib.join l sep = r) := by show _ = _; rw [<- HR.out, List.take_of_length_le (Nat.le_refl _)]
   clear hb
   gi_wp2_with fail
   go_ret
   rw [HE.out]
   exact ⟨rfl, HB.out⟩
theorem Tw.rd1 (x : List UInt8) (w : World) : Rd (.slice (some ⟨w.heap.size, 0, none⟩) 1 1) [x] (w.alloc (.cells #[S x] 9)) := Rd.of_row (row_one x w)
theorem flat_take {α : Type} (F : α -> List UInt8) (l : List α) (k : Nat) (h : k < l.length) : (l.take (k + 1)).map F = (l.take k).map F ++ [F l[k]] := by
 rw [List.take_succ_eq_append_getElem h, List.map_append]; rfl
set_option maxHeartbeats 8000000 in
theorem dtextA2_any (vs : List Value) (r : Rc.PRec) (w : World) (h : DatRd vs r w) (hf : DF r) (hnum : ∀ n ∈ r.nums, n < 4294967296) (hfm : Tw.form r) (htp : r.type = 1) :
  Calls Tryz.prog 37 #[.agg vs.toArray] w (Gives (S (Tw.dtext r)) w) := by
 obtain ⟨vn, vm, vt, vr, rfl, ⟨us, hus, h1, h1'⟩, h2, h3, h4⟩ := h
 obtain ⟨on, cn, rfl, c1, c1'⟩ := h1.form
 obtain ⟨om, cm, rfl, c2, c2'⟩ := h2.form
 obtain ⟨ot, ct, rfl, c3, c3'⟩ := h3.form
 obtain ⟨or, cr, rfl, c4, c4'⟩ := Sl.form h4
 have H1 := Lib.hid (And.intro h1 h1')
 have H2 := Lib.hid h2
 have H3 := Lib.hid h3
 have H4 := Lib.hid h4
 have HF := Lib.hid hf
 have HNUM := Lib.hid hnum
 have e2 : (numC r.nums).length = r.nums.length := by simp [numC]
 have e4 : (r.raw.map fun b : UInt8 => Value.int .u8 (b.toNat : Int)).length = r.raw.length := by simp
 rw [e2] at c2 ⊢
 rw [e4] at c4 ⊢
 rw [hus] at c1 ⊢
 unfold maxLen at c1' c2' c4'
 obtain ⟨ln, hln⟩ : ∃ ln, r.names.length = ln := ⟨_, rfl⟩
 obtain ⟨lm, hlm⟩ : ∃ lm, r.nums.length = lm := ⟨_, rfl⟩
 obtain ⟨lt, hlt⟩ : ∃ lt, r.texts.length = lt := ⟨_, rfl⟩
 obtain ⟨lr, hlr⟩ : ∃ lr, r.raw.length = lr := ⟨_, rfl⟩
 rw [hln] at c1 ⊢
 rw [hlm] at c2 ⊢
 rw [hlt] at c3 ⊢
 rw [hlr] at c4 ⊢
 have HUS := Lib.hid (hus.trans hln)
 have HL := Lib.hid (And.intro hln (And.intro hlm (And.intro hlt hlr)))
 have b1 : ln <= 8 := by rw [<- hln]; exact hf.names
 have b2 : lm <= 12 := by rw [<- hlm]; exact hf.nums
 have b3 : lt <= 40 := by rw [<- hlt]; exact hf.texts
 have b4 : lr <= 1100 := by rw [<- hlr]; exact hf.raw
 obtain ⟨out, hout⟩ : ∃ x, Tw.dtext r = x := ⟨_, rfl⟩
 rw [hout]
 have HO := Lib.hid hout
 have f := Tw.form_cnt hfm (show Tw.cnt r.type = (0, 0, 4) by rw [htp]; rfl)
 have hlr4 : lr = 4 := by have := f.2.2.1 (by decide); omega
 have HEQ : Hid (Lib.join (Tx.grp r.raw 1 Tx.dec1 4) [46] = Tw.dtext r) := by
  have x1 : r.names = [] := List.length_eq_zero_iff.1 (by omega)
  have x2 : r.nums = [] := List.length_eq_zero_iff.1 (by omega)
  have x4 : r.texts = [] := List.length_eq_zero_iff.1 (by have := f.2.2.2; unfold Tw.txs at this; rw [if_neg (by omega)] at this; exact this)
  show _ = _
  unfold Tw.dtext Tw.words Tw.base Tx.addr
  rw [if_pos htp, x1, x2, x4, if_neg (by omega), if_neg (by omega)]
  simp [Lib.join_one]
 subst hlr4
 rw [htp]
 have HLEN : Hid (∀ s ∈ Tx.grp r.raw 1 Tx.dec1 4, s.length <= 5000000) := fun s hs => by unfold Tx.grp at hs; obtain ⟨i, _, rfl⟩ := List.mem_map.1 hs; have := Tx.dec1_len ((r.raw.drop (i * 1)).take 1); omega
 clear htp f
 obtain ⟨W1, hW1⟩ : ∃ W1, w.alloc (.cells #[.int .i64 1, .slice on ln cn, .slice om lm cm, .slice ot lt ct, .slice or 4 cr] 38) = W1 := ⟨_, rfl⟩
 have hb1 : Below w.heap.size w W1 := by subst hW1; exact (Below.refl _ _).alloc (Nat.le_refl _) _
 have hblk : Blk w.heap.size #[.int .i64 1, .slice on ln cn, .slice om lm cm, .slice ot lt ct, .slice or 4 cr] 38 W1 := by subst hW1; exact Blk.new w _ _
 have HB := Lib.hid hb1
 have HBL := Lib.hid hblk
 have d0 : W1.cell? ⟨w.heap.size, 0, none⟩ = some _ := hblk.cell 0
 have d1 : W1.cell? ⟨w.heap.size, 1, none⟩ = some _ := hblk.cell 1
 have d2 : W1.cell? ⟨w.heap.size, 2, none⟩ = some _ := hblk.cell 2
 have d3 : W1.cell? ⟨w.heap.size, 3, none⟩ = some _ := hblk.cell 3
 have d4 : W1.cell? ⟨w.heap.size, 4, none⟩ = some _ := hblk.cell 4
 clear h1 h1' h2 h3 h4 hf hnum hus e2 e4 hln hlm hlt hlr hout hb1 hblk hfm
 refine (callsIn_wide (n := 0)).1 ?_
 refine callsIn_of_wp Tryz.func37 rfl trivial ?_ rfl
 simp only [Tryz.ntmps37, List.size_toArray, List.length_cons, List.length_nil, Nat.reduceAdd, Nat.reduceSub, Array.replicate_succ, Array.replicate_zero, List.push_toArray, List.append_toArray, List.nil_append, List.cons_append]
 gi_wp2_with fail
 clear d0 d1 d2 d3 d4
 gi_loopw [3, 4] (fun v3 v4 W => ∃ k : Nat, k <= 4 /\ v4 = .int .i64 (k : Int) /\ Row (fun g => W1.heap.size <= g) 9 1 v3 k ((Tx.grp r.raw 1 Tx.dec1 k).map S) W /\ Below W1.heap.size W1 W) (fun _ v4 _ => 4 - (intOf v4).toNat)
 case atStart => exact ⟨0, Nat.zero_le _, rfl, Row.nil _ _ _ _, Below.refl _ _⟩
 case round =>
  obtain ⟨k, hk, rfl, hrow, hbx⟩ := hrel
  have HBX := Lib.hid hbx
  have HB2 := Lib.hid (below5 HB.out hbx)
  have HROW := Lib.hid hrow
  clear hbx hrow
  by_cases hlt : k < 4
  case pos =>
   have hlz : (k : Int) < 4 := by omega
   have hkr : k < r.raw.length := by rw [HL.out.2.2.2]; exact hlt
   obtain ⟨a, rfl, y⟩ := H4.out.cells _ HB2.out k (by rw [List.length_map]; exact hkr)
   rw [List.getElem_map] at y
   obtain ⟨c, hc⟩ : ∃ c, r.raw[k] = c := ⟨_, rfl⟩
   rw [hc] at y
   have hc255 : (c.toNat : Int) <= 255 := by have := c.toNat_lt; omega
   have hwc : IntKind.i64.wrap (c.toNat : Int) = (c.toNat : Int) := by rw [IntKind.wrap_i64]; omega
   have q4 : wr.cell? ⟨w.heap.size, 4, none⟩ = some _ := (HBL.out.below HBX.out).cell 4
   obtain ⟨x, hx⟩ : ∃ x, Lib.decDigits c.toNat = x := ⟨_, rfl⟩
   have HD : Hid (∀ W, Calls Tryz.prog 35 #[.int .i64 (c.toNat : Int)] W (Gives (S x) W)) := fun W => by
    have := refDecimal_any c.toNat (by omega) W
    rw [hx] at this; exact this
   have HCC := Lib.hid hc
   have HXX := Lib.hid hx
   clear hc hx
   have HS : Hid (Tx.grp r.raw 1 Tx.dec1 (k + 1) = Tx.grp r.raw 1 Tx.dec1 k ++ [x]) := by
    show _ = _
    rw [Tx.grp_succ, show (r.raw.drop (k * 1)).take 1 = [c] by rw [Nat.mul_one, List.drop_eq_getElem_cons hkr, HCC.out]; rfl, Tx.dec1_of rfl, <- HXX.out]; simp [Tx.val]
   gi_wp2_with fail
   refine (callsIn_wide.2 (HD.out _)).mono ?_
   rintro e w2 ⟨rfl, b2⟩
   have HB3 := Lib.hid (below5 HB2.out b2)
   have HBX3 := Lib.hid (below5 HBX.out b2)
   have HR3 := Lib.hid (HROW.out.below b2)
   clear b2
   gi_wp2_with (gi_at_builtin; refine append_rd (fun g => W1.heap.size <= g) rfl _ _ _ Tryz.underlying22 rfl _ k _ (by rfl) (HR3.out.alloc _) _ [x] (by rfl) (Tw.rd1 _ _) (by simp; omega) (by have := HBX3.out.size; simp; omega) ?_; intro v10 w10 hrow10 hgr10)
   refine ⟨⟨k + 1, hlt, by go_num, by rw [HS.out]; exact hrow10, ?_⟩, by simp [intOf]; omega⟩
   have hbn : Below W1.heap.size W1 (w2.alloc (.cells #[S x] 9)) := HBX3.out.alloc HBX3.out.size _
   exact hbn.grown hgr10 hbn.size (fun g hg => HR3.out.2 g hg)
  case neg =>
   obtain rfl : 4 = k := by omega
   have hlz : ¬ ((4 : Nat) : Int) < 4 := by omega
   have q4 : wr.cell? ⟨w.heap.size, 4, none⟩ = some _ := (HBL.out.below HBX.out).cell 4
   have hrd : Rd u3 (Tx.grp r.raw 1 Tx.dec1 4) wr := Rd.of_row (R := fun g => W1.heap.size <= g) (e := 9) (by rw [show (Tx.grp r.raw 1 Tx.dec1 4).length = 4 by simp [Tx.grp]]; exact HROW.out)
   have HJ : Hid (Calls Tryz.prog 74 #[u3, S [46]] wr (Gives (S out) wr)) := by
    have := joined2_any u3 (Tx.grp r.raw 1 Tx.dec1 4) [46] wr hrd (by rw [show (Tx.grp r.raw 1 Tx.dec1 4).length = 4 by simp [Tx.grp]]; omega) (by decide) (fun s hs => HLEN.out s hs)
    rw [show Lib.join (Tx.grp r.raw 1 Tx.dec1 4) [46] = out by rw [<- HO.out]; exact HEQ.out] at this
    exact this
   clear hrd
   gi_wp2_with fail
   refine (callsIn_wide.2 HJ.out).mono ?_
   rintro e w2 ⟨rfl, b2⟩
   have HB3 := Lib.hid (below5 HB2.out b2)
   clear b2
   gi_wp2_with fail
   go_ret
   exact ⟨rfl, HB3.out⟩
set_option maxHeartbeats 8000000 in
theorem dtext28_any (vs : List Value) (r : Rc.PRec) (w : World) (h : DatRd vs r w) (hf : DF r) (hnum : ∀ n ∈ r.nums, n < 4294967296) (hfm : Tw.form r) (htp : r.type = 28) :
  Calls Tryz.prog 37 #[.agg vs.toArray] w (Gives (S (Tw.dtext r)) w) := by
 obtain ⟨vn, vm, vt, vr, rfl, ⟨us, hus, h1, h1'⟩, h2, h3, h4⟩ := h
 obtain ⟨on, cn, rfl, c1, c1'⟩ := h1.form
 obtain ⟨om, cm, rfl, c2, c2'⟩ := h2.form
 obtain ⟨ot, ct, rfl, c3, c3'⟩ := h3.form
 obtain ⟨or, cr, rfl, c4, c4'⟩ := Sl.form h4
 have H1 := Lib.hid (And.intro h1 h1')
 have H2 := Lib.hid h2
 have H3 := Lib.hid h3
 have H4 := Lib.hid h4
 have HF := Lib.hid hf
 have HNUM := Lib.hid hnum
 have e2 : (numC r.nums).length = r.nums.length := by simp [numC]
 have e4 : (r.raw.map fun b : UInt8 => Value.int .u8 (b.toNat : Int)).length = r.raw.length := by simp
 rw [e2] at c2 ⊢
 rw [e4] at c4 ⊢
 rw [hus] at c1 ⊢
 unfold maxLen at c1' c2' c4'
 obtain ⟨ln, hln⟩ : ∃ ln, r.names.length = ln := ⟨_, rfl⟩
 obtain ⟨lm, hlm⟩ : ∃ lm, r.nums.length = lm := ⟨_, rfl⟩
 obtain ⟨lt, hlt⟩ : ∃ lt, r.texts.length = lt := ⟨_, rfl⟩
 obtain ⟨lr, hlr⟩ : ∃ lr, r.raw.length = lr := ⟨_, rfl⟩
 rw [hln] at c1 ⊢
 rw [hlm] at c2 ⊢
 rw [hlt] at c3 ⊢
 rw [hlr] at c4 ⊢
 have HUS := Lib.hid (hus.trans hln)
 have HL := Lib.hid (And.intro hln (And.intro hlm (And.intro hlt hlr)))
 have b1 : ln <= 8 := by rw [<- hln]; exact hf.names
 have b2 : lm <= 12 := by rw [<- hlm]; exact hf.nums
 have b3 : lt <= 40 := by rw [<- hlt]; exact hf.texts
 have b4 : lr <= 1100 := by rw [<- hlr]; exact hf.raw
 obtain ⟨out, hout⟩ : ∃ x, Tw.dtext r = x := ⟨_, rfl⟩
 rw [hout]
 have HO := Lib.hid hout
 have f := Tw.form_cnt hfm (show Tw.cnt r.type = (0, 0, 16) by rw [htp]; rfl)
 have hlr4 : lr = 16 := by have := f.2.2.1 (by decide); omega
 have HEQ : Hid (Lib.join (Tx.grp r.raw 2 Tw.hex2 8) [58] = Tw.dtext r) := by
  have x1 : r.names = [] := List.length_eq_zero_iff.1 (by omega)
  have x2 : r.nums = [] := List.length_eq_zero_iff.1 (by omega)
  have x4 : r.texts = [] := List.length_eq_zero_iff.1 (by have := f.2.2.2; unfold Tw.txs at this; rw [if_neg (by omega)] at this; exact this)
  show _ = _
  unfold Tw.dtext Tw.words Tw.base Tw.addr6
  rw [if_neg (by omega), if_pos htp, x1, x2, x4, if_neg (by omega), if_neg (by omega)]
  simp [Lib.join_one]
 subst hlr4
 rw [htp]
 have HLEN : Hid (∀ s ∈ Tx.grp r.raw 2 Tw.hex2 8, s.length <= 5000000) := fun s hs => by unfold Tx.grp at hs; obtain ⟨i, _, rfl⟩ := List.mem_map.1 hs; have := Tw.hex2_len ((r.raw.drop (i * 2)).take 2); omega
 clear htp f
 obtain ⟨W1, hW1⟩ : ∃ W1, w.alloc (.cells #[.int .i64 28, .slice on ln cn, .slice om lm cm, .slice ot lt ct, .slice or 16 cr] 38) = W1 := ⟨_, rfl⟩
 have hb1 : Below w.heap.size w W1 := by subst hW1; exact (Below.refl _ _).alloc (Nat.le_refl _) _
 have hblk : Blk w.heap.size #[.int .i64 28, .slice on ln cn, .slice om lm cm, .slice ot lt ct, .slice or 16 cr] 38 W1 := by subst hW1; exact Blk.new w _ _
 have HB := Lib.hid hb1
 have HBL := Lib.hid hblk
 have d0 : W1.cell? ⟨w.heap.size, 0, none⟩ = some _ := hblk.cell 0
 have d1 : W1.cell? ⟨w.heap.size, 1, none⟩ = some _ := hblk.cell 1
 have d2 : W1.cell? ⟨w.heap.size, 2, none⟩ = some _ := hblk.cell 2
 have d3 : W1.cell? ⟨w.heap.size, 3, none⟩ = some _ := hblk.cell 3
 have d4 : W1.cell? ⟨w.heap.size, 4, none⟩ = some _ := hblk.cell 4
 clear h1 h1' h2 h3 h4 hf hnum hus e2 e4 hln hlm hlt hlr hout hb1 hblk hfm
 refine (callsIn_wide (n := 0)).1 ?_
 refine callsIn_of_wp Tryz.func37 rfl trivial ?_ rfl
 simp only [Tryz.ntmps37, List.size_toArray, List.length_cons, List.length_nil, Nat.reduceAdd, Nat.reduceSub, Array.replicate_succ, Array.replicate_zero, List.push_toArray, List.append_toArray, List.nil_append, List.cons_append]
 gi_wp2_with fail
 clear d0 d1 d2 d3 d4
 gi_loopw [3, 5] (fun v3 v5 W => ∃ k : Nat, k <= 8 /\ v5 = .int .i64 ((2 * k : Nat) : Int) /\ Row (fun g => W1.heap.size <= g) 9 1 v3 k ((Tx.grp r.raw 2 Tw.hex2 k).map S) W /\ Below W1.heap.size W1 W) (fun _ v5 _ => 17 - (intOf v5).toNat)
 case atStart => exact ⟨0, Nat.zero_le _, rfl, Row.nil _ _ _ _, Below.refl _ _⟩
 case round =>
  obtain ⟨k, hk, rfl, hrow, hbx⟩ := hrel
  have HBX := Lib.hid hbx
  have HB2 := Lib.hid (below5 HB.out hbx)
  have HROW := Lib.hid hrow
  clear hbx hrow
  by_cases hlt : k < 8
  case pos =>
   obtain ⟨j, hj⟩ : ∃ j, 2 * k = j := ⟨_, rfl⟩
   rw [hj]
   have hjl : j + 1 < 16 := by omega
   have hlz : (j : Int) + 1 < 16 := by omega
   have hkr : j < r.raw.length := by rw [HL.out.2.2.2]; omega
   have hkr2 : j + 1 < r.raw.length := by rw [HL.out.2.2.2]; omega
   have hcl := H4.out.cells
   have hy : ∃ a, or = some a /\ ∀ W', Below w.heap.size w W' -> ∀ m (h : m < r.raw.length), W'.cell? (a.add m) = some (.int .u8 (r.raw[m].toNat : Int)) := by
    obtain ⟨a, ha, _⟩ := hcl _ HB2.out j (by rw [List.length_map]; exact hkr)
    refine ⟨a, ha, fun W' hb m hm => ?_⟩
    obtain ⟨a', ha', h⟩ := hcl _ hb m (by rw [List.length_map]; exact hm)
    rw [ha] at ha'
    cases ha'
    rw [h, List.getElem_map]
   obtain ⟨a, rfl, hya⟩ := hy
   have hy1 := fun W' hb => hya W' hb j hkr
   have hy2 := fun W' hb => hya W' hb (j + 1) hkr2
   obtain ⟨c, hc⟩ : ∃ c, r.raw[j] = c := ⟨_, rfl⟩
   obtain ⟨d, hd⟩ : ∃ d, r.raw[j + 1] = d := ⟨_, rfl⟩
   rw [hc] at hy1
   rw [hd] at hy2
   have HY := Lib.hid hy1
   have y := hy1 _ HB2.out
   have hc255 : (c.toNat : Int) <= 255 := by have := c.toNat_lt; omega
   have hd255 : (d.toNat : Int) <= 255 := by have := d.toNat_lt; omega
   have hwc : IntKind.i64.wrap (c.toNat : Int) = (c.toNat : Int) := by rw [IntKind.wrap_i64]; omega
   have hwd : IntKind.i64.wrap (d.toNat : Int) = (d.toNat : Int) := by rw [IntKind.wrap_i64]; omega
   have hwm : IntKind.i64.wrap ((c.toNat : Int) * 256) = (c.toNat : Int) * 256 := by rw [IntKind.wrap_i64]; omega
   have hwa : IntKind.i64.wrap ((c.toNat : Int) * 256 + (d.toNat : Int)) = (c.toNat : Int) * 256 + (d.toNat : Int) := by rw [IntKind.wrap_i64]; omega
   obtain ⟨j1, hj1⟩ : ∃ x, j + 1 = x := ⟨_, rfl⟩
   have hwj : IntKind.i64.wrap ((j : Int) + 1) = (j1 : Int) := by rw [IntKind.wrap_i64]; omega
   have hj1z : (j1 : Int) < 16 := by omega
   rw [hj1] at hy2
   have HY2 := Lib.hid hy2
   have y2 := hy2 _ HB2.out
   clear hj1
   have q4 : wr.cell? ⟨w.heap.size, 4, none⟩ = some _ := (HBL.out.below HBX.out).cell 4
   obtain ⟨x, hx⟩ : ∃ x, Hx.hexd (c.toNat * 256 + d.toNat) = x := ⟨_, rfl⟩
   have HD : Hid (∀ W, Calls Tryz.prog 75 #[.int .i64 ((c.toNat : Int) * 256 + (d.toNat : Int)), .int .i64 1] W (Gives (S x) W)) := fun W => by
    have := refHex_any (c.toNat * 256 + d.toNat) 1 (by omega) (by decide) W
    rw [Hx.hexP_one, hx] at this
    rw [show ((c.toNat : Int) * 256 + (d.toNat : Int)) = ((c.toNat * 256 + d.toNat : Nat) : Int) by omega]; exact this
   have HCC := Lib.hid (And.intro hc hd)
   have HXX := Lib.hid hx
   have HJ := Lib.hid hj
   clear hc hd hx hj hcl hya hy1 hy2
   have HS : Hid (Tx.grp r.raw 2 Tw.hex2 (k + 1) = Tx.grp r.raw 2 Tw.hex2 k ++ [x]) := by
    show _ = _
    rw [Tx.grp_succ, show k * 2 = j by have := HJ.out; omega, show (r.raw.drop j).take 2 = [c, d] by rw [List.drop_eq_getElem_cons hkr, HCC.out.1, List.take_succ_cons, List.drop_eq_getElem_cons hkr2, HCC.out.2]; rfl, <- HXX.out]
    simp [Tw.hex2, Tx.val]
   gi_wp2_with fail
   have HST : Hid (∀ W', Below wr.heap.size wr W' -> W'.cell? ⟨w.heap.size, 4, none⟩ = some (.slice (some a) 16 cr) /\ W'.cell? (a.add j) = some (.int .u8 (c.toNat : Int)) /\ W'.cell? (a.add j1) = some (.int .u8 (d.toNat : Int))) := fun W' hb => ⟨(HBL.out.below (below5 HBX.out hb)).cell 4, HY.out _ (below5 HB2.out hb), HY2.out _ (below5 HB2.out hb)⟩
   clear y y2 q4
   refine drawnH [2, 5, 6, 7, 9, 12, 13, 14, 15, 16, 17, 18] (fun W' => W'.cell? ⟨w.heap.size, 4, none⟩ = some (.slice (some a) 16 cr) /\ W'.cell? (a.add j) = some (.int .u8 (c.toNat : Int)) /\ W'.cell? (a.add j1) = some (.int .u8 (d.toNat : Int))) 20 rfl (by kernel_rfl) ?_
   intro w' hw'
   have hbd : Below wr.heap.size wr w' := by subst hw'; exact (Below.refl _ _).drew
   have hS := HST.out _ hbd
   have HBD := Lib.hid hbd
   clear hw' hbd
   refine tP 0 ?qav0 (fun w1 _ => ?qay0) ?_
   case qay0 => go_simp; try rfl
   refine tP 1 ?qav1 (fun w1 _ => ?qay1) ?_
   case qay1 => go_simp; try rfl
   refine tP 3 ?qav3 (fun w1 _ => ?qay3) ?_
   case qay3 => go_simp; try rfl
   refine tP 8 ?qav8 (fun w1 _ => ?qay8) ?_
   case qay8 => go_simp; try rfl
   refine tP 10 ?qav10 (fun w1 _ => ?qay10) ?_
   case qay10 => go_simp; try rfl
   refine tP 11 ?qav11 (fun w1 _ => ?qay11) ?_
   case qay11 => go_simp; try rfl
   simp only [Act.put, List.setIfInBounds_toArray, List.set_cons_succ, List.set_cons_zero]
   refine tH 2 ?qav2 hS (fun w1 ⟨s0, s1, s2⟩ => ?qay2) ?_
   case qay2 => go_simp; try rfl
   simp only [Act.put, List.setIfInBounds_toArray, List.set_cons_succ, List.set_cons_zero]
   refine tP 4 ?qav4 (fun w1 _ => ?qay4) ?_
   case qay4 => (go_simp; try first | rfl | (rw [if_pos (by omega)]) | (rw [if_neg (by omega)]) | (rw [if_neg (by simp; omega)]) | (split <;> first | (exfalso; omega) | rfl))
   simp only [Act.put, List.setIfInBounds_toArray, List.set_cons_succ, List.set_cons_zero]
   refine tH 5 ?qav5 hS (fun w1 ⟨s0, s1, s2⟩ => ?qay5) ?_
   case qay5 => go_simp; try rfl
   refine tH 6 ?qav6 hS (fun w1 ⟨s0, s1, s2⟩ => ?qay6) ?_
   case qay6 => go_simp; try rfl
   refine tH 7 ?qav7 hS (fun w1 ⟨s0, s1, s2⟩ => ?qay7) ?_
   case qay7 => go_simp; try rfl
   simp only [Act.put, List.setIfInBounds_toArray, List.set_cons_succ, List.set_cons_zero]
   refine tH 9 ?qav9 hS (fun w1 ⟨s0, s1, s2⟩ => ?qay9) ?_
   case qay9 => go_simp; try rfl
   refine tH 12 ?qav12 hS (fun w1 ⟨s0, s1, s2⟩ => ?qay12) ?_
   case qay12 => go_simp; try rfl
   refine tH 13 ?qav13 hS (fun w1 ⟨s0, s1, s2⟩ => ?qay13) ?_
   case qay13 => go_simp; try rfl
   refine tH 14 ?qav14 hS (fun w1 ⟨s0, s1, s2⟩ => ?qay14) ?_
   case qay14 => go_simp; try rfl
   refine tH 15 ?qav15 hS (fun w1 ⟨s0, s1, s2⟩ => ?qay15) ?_
   case qay15 => go_simp; try rfl
   simp only [Act.put, List.setIfInBounds_toArray, List.set_cons_succ, List.set_cons_zero]
   clear hS
   refine oneH 16 (by rfl) (by kernel_rfl) (fun K hK => ?_)
   gi_wp2_with fail
   refine (callsIn_wide.2 (HD.out _)).mono ?_
   rintro e w2 ⟨rfl, b2⟩
   have hbx3 := below5 HBD.out b2
   have HBX4 := Lib.hid hbx3
   have HBX3 := Lib.hid (below5 HBX.out hbx3)
   have HR3 := Lib.hid (HROW.out.below hbx3)
   clear b2 hbx3
   gi_wp2_with fail
   refine hK _ _ (fun _ => HST.out _ HBX4.out) ?_
   clear hK K
   refine oneH 17 (by rfl) (by kernel_rfl) (fun K hK => ?_)
   gi_wp2_with fail
   have HBX5 : Hid (Below wr.heap.size wr (w2.alloc (.cells #[S x] 9))) := HBX4.out.alloc HBX4.out.size _
   refine hK _ _ (fun _ => HST.out _ HBX5.out) ?_
   clear hK K
   refine oneH 18 (by rfl) (by kernel_rfl) (fun K hK => ?_)
   refine append_rd (fun g => W1.heap.size <= g) rfl _ _ _ Tryz.underlying22 rfl _ k _ (by rfl) (HR3.out.alloc _) _ [x] (by rfl) (Tw.rd1 _ _) (by simp; omega) (by have := HBX3.out.size; simp; omega) ?_
   intro v10 w10 hrow10 hgr10
   have hb10 : Below W1.heap.size W1 w10 := (HBX3.out.alloc HBX3.out.size _).grown hgr10 (HBX3.out.alloc HBX3.out.size _).size (fun g hg => HR3.out.2 g hg)
   refine hK _ _ (fun _ => ⟨(HBL.out.below hb10).cell 4, HY.out _ (below5 HB.out hb10), HY2.out _ (below5 HB.out hb10)⟩) ?_
   have HB10 := Lib.hid hb10
   clear hK K hb10
   refine oneH 19 (by rfl) (by kernel_rfl) (fun K hK => ?_)
   gi_wp2_with fail
   refine hK _ _ (fun h => by simp at h) ?_
   clear hK K
   refine doneH (by kernel_rfl) ?_
   gi_wp2_with fail
   refine ⟨⟨k + 1, hlt, ?_, by rw [HS.out]; exact hrow10, HB10.out⟩, ?_⟩
   ·have := HJ.out; show Value.int _ _ = Value.int _ _; congr 1; omega
   ·have := HJ.out; simp [intOf]; omega
  case neg =>
   obtain rfl : 8 = k := by omega
   have hlz : ¬ (((2 * 8 : Nat) : Int) + 1 < 16) := by omega
   have q4 : wr.cell? ⟨w.heap.size, 4, none⟩ = some _ := (HBL.out.below HBX.out).cell 4
   have hrd : Rd u3 (Tx.grp r.raw 2 Tw.hex2 8) wr := Rd.of_row (R := fun g => W1.heap.size <= g) (e := 9) (by rw [show (Tx.grp r.raw 2 Tw.hex2 8).length = 8 by simp [Tx.grp]]; exact HROW.out)
   have HJ : Hid (Calls Tryz.prog 74 #[u3, S [58]] wr (Gives (S out) wr)) := by
    have := joined2_any u3 (Tx.grp r.raw 2 Tw.hex2 8) [58] wr hrd (by rw [show (Tx.grp r.raw 2 Tw.hex2 8).length = 8 by simp [Tx.grp]]; omega) (by decide) (fun s hs => HLEN.out s hs)
    rw [show Lib.join (Tx.grp r.raw 2 Tw.hex2 8) [58] = out by rw [<- HO.out]; exact HEQ.out] at this
    exact this
   clear hrd
   gi_wp2_with fail
   refine (callsIn_wide.2 HJ.out).mono ?_
   rintro e w2 ⟨rfl, b2⟩
   have HB3 := Lib.hid (below5 HB2.out b2)
   clear b2
   gi_wp2_with fail
   go_ret
   exact ⟨rfl, HB3.out⟩
theorem Tw.quo_len (l : List UInt8) : (Tw.quo l).length <= 4 * l.length + 2 := by have := Tw.quoB_len l; simp [Tw.quo]; omega
set_option maxHeartbeats 8000000 in
theorem dtext16_any (vs : List Value) (r : Rc.PRec) (w : World) (h : DatRd vs r w) (hf : DF r) (hnum : ∀ n ∈ r.nums, n < 4294967296) (hfm : Tw.form r) (htp : r.type = 16) :
  Calls Tryz.prog 37 #[.agg vs.toArray] w (Gives (S (Tw.dtext r)) w) := by
 obtain ⟨vn, vm, vt, vr, rfl, ⟨us, hus, h1, h1'⟩, h2, h3, h4⟩ := h
 obtain ⟨on, cn, rfl, c1, c1'⟩ := h1.form
 obtain ⟨om, cm, rfl, c2, c2'⟩ := h2.form
 obtain ⟨ot, ct, rfl, c3, c3'⟩ := h3.form
 obtain ⟨or, cr, rfl, c4, c4'⟩ := Sl.form h4
 have H1 := Lib.hid (And.intro h1 h1')
 have H2 := Lib.hid h2
 have H3 := Lib.hid h3
 have H4 := Lib.hid h4
 have HF := Lib.hid hf
 have HNUM := Lib.hid hnum
 have e2 : (numC r.nums).length = r.nums.length := by simp [numC]
 have e4 : (r.raw.map fun b : UInt8 => Value.int .u8 (b.toNat : Int)).length = r.raw.length := by simp
 rw [e2] at c2 ⊢
 rw [e4] at c4 ⊢
 rw [hus] at c1 ⊢
 unfold maxLen at c1' c2' c4'
 obtain ⟨ln, hln⟩ : ∃ ln, r.names.length = ln := ⟨_, rfl⟩
 obtain ⟨lm, hlm⟩ : ∃ lm, r.nums.length = lm := ⟨_, rfl⟩
 obtain ⟨lt, hlt⟩ : ∃ lt, r.texts.length = lt := ⟨_, rfl⟩
 obtain ⟨lr, hlr⟩ : ∃ lr, r.raw.length = lr := ⟨_, rfl⟩
 rw [hln] at c1 ⊢
 rw [hlm] at c2 ⊢
 rw [hlt] at c3 ⊢
 rw [hlr] at c4 ⊢
 have HUS := Lib.hid (hus.trans hln)
 have HL := Lib.hid (And.intro hln (And.intro hlm (And.intro hlt hlr)))
 have b1 : ln <= 8 := by rw [<- hln]; exact hf.names
 have b2 : lm <= 12 := by rw [<- hlm]; exact hf.nums
 have b3 : lt <= 40 := by rw [<- hlt]; exact hf.texts
 have b4 : lr <= 1100 := by rw [<- hlr]; exact hf.raw
 obtain ⟨out, hout⟩ : ∃ x, Tw.dtext r = x := ⟨_, rfl⟩
 rw [hout]
 have HO := Lib.hid hout
 have f := Tw.form_cnt hfm (show Tw.cnt r.type = (0, 0, 0) by rw [htp]; rfl)
 have HEQ : Hid (Lib.join (r.texts.map Tw.quo) [32] = Tw.dtext r) := by
  have x1 : r.names = [] := List.length_eq_zero_iff.1 (by omega)
  have x2 : r.nums = [] := List.length_eq_zero_iff.1 (by omega)
  show _ = _
  unfold Tw.dtext Tw.words Tw.base
  rw [if_neg (by omega), if_neg (by omega), if_pos (by rw [htp]; decide), x1, x2, if_neg (by omega), if_neg (by omega)]
  simp
 rw [htp]
 have HLEN : Hid (∀ s ∈ r.texts.map Tw.quo, s.length <= 5000000) := fun s hs => by obtain ⟨t, ht, rfl⟩ := List.mem_map.1 hs; have := Tw.quo_len t; have := hf.text t ht; omega
 clear htp f
 obtain ⟨W1, hW1⟩ : ∃ W1, w.alloc (.cells #[.int .i64 16, .slice on ln cn, .slice om lm cm, .slice ot lt ct, .slice or lr cr] 38) = W1 := ⟨_, rfl⟩
 have hb1 : Below w.heap.size w W1 := by subst hW1; exact (Below.refl _ _).alloc (Nat.le_refl _) _
 have hblk : Blk w.heap.size #[.int .i64 16, .slice on ln cn, .slice om lm cm, .slice ot lt ct, .slice or lr cr] 38 W1 := by subst hW1; exact Blk.new w _ _
 have HB := Lib.hid hb1
 have HBL := Lib.hid hblk
 have d0 : W1.cell? ⟨w.heap.size, 0, none⟩ = some _ := hblk.cell 0
 have d1 : W1.cell? ⟨w.heap.size, 1, none⟩ = some _ := hblk.cell 1
 have d2 : W1.cell? ⟨w.heap.size, 2, none⟩ = some _ := hblk.cell 2
 have d3 : W1.cell? ⟨w.heap.size, 3, none⟩ = some _ := hblk.cell 3
 have d4 : W1.cell? ⟨w.heap.size, 4, none⟩ = some _ := hblk.cell 4
 clear h1 h1' h2 h3 h4 hf hnum hus e2 e4 hln hlm hlt hlr hout hb1 hblk hfm
 refine (callsIn_wide (n := 0)).1 ?_
 refine callsIn_of_wp Tryz.func37 rfl trivial ?_ rfl
 simp only [Tryz.ntmps37, List.size_toArray, List.length_cons, List.length_nil, Nat.reduceAdd, Nat.reduceSub, Array.replicate_succ, Array.replicate_zero, List.push_toArray, List.append_toArray, List.nil_append, List.cons_append]
 gi_wp2_with fail
 clear d0 d1 d2 d3 d4
 have hltz : (lt : Int) <= 40 := by omega
 gi_loopw [3, 6] (fun v3 v6 W => ∃ k : Nat, k <= lt /\ v6 = .int .i64 (k : Int) /\ Row (fun g => W1.heap.size <= g) 9 1 v3 k (((r.texts.take k).map Tw.quo).map S) W /\ Below W1.heap.size W1 W) (fun _ v6 _ => lt - (intOf v6).toNat)
 case atStart => exact ⟨0, Nat.zero_le _, rfl, Row.nil _ _ _ _, Below.refl _ _⟩
 case round =>
  obtain ⟨k, hk, rfl, hrow, hbx⟩ := hrel
  have HBX := Lib.hid hbx
  have HB2 := Lib.hid (below5 HB.out hbx)
  have HROW := Lib.hid hrow
  clear hbx hrow
  by_cases hlt : k < lt
  case pos =>
   have hlz : (k : Int) < (lt : Int) := by omega
   have hkt : k < r.texts.length := by rw [HL.out.2.2.1]; exact hlt
   obtain ⟨a, rfl, y⟩ := H3.out.cells _ HB2.out k hkt
   obtain ⟨z, hz⟩ : ∃ z, r.texts[k] = z := ⟨_, rfl⟩
   rw [hz] at y
   have hzl : z.length <= 300 := by rw [<- hz]; exact HF.out.text _ (List.getElem_mem hkt)
   have q3 : wr.cell? ⟨w.heap.size, 3, none⟩ = some _ := (HBL.out.below HBX.out).cell 3
   obtain ⟨x, hx⟩ : ∃ x, Tw.quo z = x := ⟨_, rfl⟩
   have HD : Hid (∀ W, Calls Tryz.prog 76 #[S z] W (Gives (S x) W)) := fun W => by
    have := refQuoted_any z W (by omega)
    rw [hx] at this; exact this
   have HZZ := Lib.hid hz
   have HXX := Lib.hid hx
   clear hz hx hzl
   have HS : Hid ((r.texts.take (k + 1)).map Tw.quo = (r.texts.take k).map Tw.quo ++ [x]) := by
    show _ = _
    rw [flat_take _ _ _ hkt, HZZ.out, HXX.out]
   gi_wp2_with fail
   refine (callsIn_wide.2 (HD.out _)).mono ?_
   rintro e w2 ⟨rfl, b2⟩
   have HB3 := Lib.hid (below5 HB2.out b2)
   have HBX3 := Lib.hid (below5 HBX.out b2)
   have HR3 := Lib.hid (HROW.out.below b2)
   clear b2
   gi_wp2_with (gi_at_builtin; refine append_rd (fun g => W1.heap.size <= g) rfl _ _ _ Tryz.underlying22 rfl _ k _ (by rfl) (HR3.out.alloc _) _ [x] (by rfl) (Tw.rd1 _ _) (by simp; omega) (by have := HBX3.out.size; simp; omega) ?_; intro v10 w10 hrow10 hgr10)
   refine ⟨⟨k + 1, hlt, by go_num, by rw [HS.out]; exact hrow10, ?_⟩, by simp [intOf]; omega⟩
   have hbn : Below W1.heap.size W1 (w2.alloc (.cells #[S x] 9)) := HBX3.out.alloc HBX3.out.size _
   exact hbn.grown hgr10 hbn.size (fun g hg => HR3.out.2 g hg)
  case neg =>
   obtain rfl : lt = k := by omega
   have hlz : ¬ (lt : Int) < (lt : Int) := by omega
   have htk : r.texts.take lt = r.texts := List.take_of_length_le (by rw [HL.out.2.2.1]; exact Nat.le_refl _)
   rw [htk] at HROW
   clear htk
   have q3 : wr.cell? ⟨w.heap.size, 3, none⟩ = some _ := (HBL.out.below HBX.out).cell 3
   have hrd : Rd u3 (r.texts.map Tw.quo) wr := Rd.of_row (R := fun g => W1.heap.size <= g) (e := 9) (by rw [show (r.texts.map Tw.quo).length = lt by rw [List.length_map]; exact HL.out.2.2.1]; exact HROW.out)
   have HJ : Hid (Calls Tryz.prog 74 #[u3, S [32]] wr (Gives (S out) wr)) := by
    have := joined2_any u3 (r.texts.map Tw.quo) [32] wr hrd (by rw [show (r.texts.map Tw.quo).length = lt by rw [List.length_map]; exact HL.out.2.2.1]; omega) (by decide) (fun s hs => HLEN.out s hs)
    rw [show Lib.join (r.texts.map Tw.quo) [32] = out by rw [<- HO.out]; exact HEQ.out] at this
    exact this
   clear hrd
   gi_wp2_with fail
   refine (callsIn_wide.2 HJ.out).mono ?_
   rintro e w2 ⟨rfl, b2⟩
   have HB3 := Lib.hid (below5 HB2.out b2)
   clear b2
   gi_wp2_with fail
   go_ret
   exact ⟨rfl, HB3.out⟩
end Go.Proofs.YtgmbefolgppmdaaGreatDoor
end
section
namespace Go.Proofs.YtgmbefolgppmdaaGreatDoor
open Go.RowKit Go.Shelf Go.Sort
set_option maxRecDepth 100000
theorem one_of {α : Type} : ∀ {l : List α} (_ : l.length = 1) (h0 : 0 < l.length), l = [l[0]]
 | [_], _, _ => rfl
theorem numC_at {ns : List Nat} {k : Nat} (h : k < ns.length) (h' : k < (numC ns).length) : (numC ns)[k] = .int .u32 ((ns[k] : Nat) : Int) := by simp [numC]
theorem join_two (x y sep : List UInt8) : Lib.join [x, y] sep = x ++ sep ++ y := by simp [Lib.join]
set_option maxHeartbeats 8000000 in
theorem dtext15_any (vs : List Value) (r : Rc.PRec) (w : World) (h : DatRd vs r w) (hf : DF r) (hnum : ∀ n ∈ r.nums, n < 4294967296) (hfm : Tw.form r) (htp : r.type = 15) :
  Calls Tryz.prog 37 #[.agg vs.toArray] w (Gives (S (Tw.dtext r)) w) := by
 obtain ⟨vn, vm, vt, vr, rfl, ⟨us, hus, h1, h1'⟩, h2, h3, h4⟩ := h
 obtain ⟨on, cn, rfl, c1, c1'⟩ := h1.form
 obtain ⟨om, cm, rfl, c2, c2'⟩ := h2.form
 obtain ⟨ot, ct, rfl, c3, c3'⟩ := h3.form
 obtain ⟨or, cr, rfl, c4, c4'⟩ := Sl.form h4
 have H1 := Lib.hid (And.intro h1 h1')
 have H2 := Lib.hid h2
 have H3 := Lib.hid h3
 have H4 := Lib.hid h4
 have HF := Lib.hid hf
 have HNUM := Lib.hid hnum
 have e2 : (numC r.nums).length = r.nums.length := by simp [numC]
 have e4 : (r.raw.map fun b : UInt8 => Value.int .u8 (b.toNat : Int)).length = r.raw.length := by simp
 rw [e2] at c2 ⊢
 rw [e4] at c4 ⊢
 rw [hus] at c1 ⊢
 unfold maxLen at c1' c2' c4'
 obtain ⟨ln, hln⟩ : ∃ ln, r.names.length = ln := ⟨_, rfl⟩
 obtain ⟨lm, hlm⟩ : ∃ lm, r.nums.length = lm := ⟨_, rfl⟩
 obtain ⟨lt, hlt⟩ : ∃ lt, r.texts.length = lt := ⟨_, rfl⟩
 obtain ⟨lr, hlr⟩ : ∃ lr, r.raw.length = lr := ⟨_, rfl⟩
 rw [hln] at c1 ⊢
 rw [hlm] at c2 ⊢
 rw [hlt] at c3 ⊢
 rw [hlr] at c4 ⊢
 have HUS := Lib.hid (hus.trans hln)
 have HL := Lib.hid (And.intro hln (And.intro hlm (And.intro hlt hlr)))
 have b1 : ln <= 8 := by rw [<- hln]; exact hf.names
 have b2 : lm <= 12 := by rw [<- hlm]; exact hf.nums
 have b3 : lt <= 40 := by rw [<- hlt]; exact hf.texts
 have b4 : lr <= 1100 := by rw [<- hlr]; exact hf.raw
 obtain ⟨out, hout⟩ : ∃ x, Tw.dtext r = x := ⟨_, rfl⟩
 rw [hout]
 have HO := Lib.hid hout
 have f := Tw.form_cnt hfm (show Tw.cnt r.type = (1, 1, 0) by rw [htp]; rfl)
 have hln1 : ln = 1 := by omega
 have hlm1 : lm = 1 := by omega
 subst hln1 hlm1
 have hn0 : 0 < r.names.length := by omega
 have hm0 : 0 < r.nums.length := by omega
 have HEQ : Hid (Lib.decDigits r.nums[0] ++ ([32] : List UInt8) ++ Nm.text r.names[0] = Tw.dtext r) := by
  have x1 : r.names = [r.names[0]] := one_of hln hn0
  have x2 : r.nums = [r.nums[0]] := one_of hlm hm0
  have x4 : r.texts = [] := List.length_eq_zero_iff.1 (by have := f.2.2.2; unfold Tw.txs at this; rw [if_neg (by omega)] at this; exact this)
  show _ = _
  obtain ⟨a, ha⟩ : ∃ a, r.names[0] = a := ⟨_, rfl⟩
  obtain ⟨b, hb⟩ : ∃ b, r.nums[0] = b := ⟨_, rfl⟩
  rw [ha] at x1 ⊢
  rw [hb] at x2 ⊢
  unfold Tw.dtext Tw.words Tw.base
  rw [if_neg (by omega), if_neg (by omega), if_pos (by rw [htp]; decide), x1, x2, x4, if_pos htp, if_pos htp]
  show _ = Lib.join [Lib.decDigits b, Nm.text a] [32]
  rw [join_two]
 rw [htp]
 obtain ⟨v, hv⟩ : ∃ v, us[0]'(by omega) = v := ⟨_, rfl⟩
 have HRV : Hid (Rd v r.names[0] w) := by show Rd _ _ _; rw [<- hv]; exact h1' 0 (by omega) hn0
 have HNB : Hid (NB r.names[0]) := NB.few (hf.name _ (List.getElem_mem hn0))
 obtain ⟨a1, rfl, y1⟩ := h1.cells w (Below.refl _ _) 0 (by omega)
 rw [hv] at y1
 obtain ⟨a2, rfl, y2⟩ := h2.cells w (Below.refl _ _) 0 (by omega)
 rw [numC_at hm0] at y2
 rw [add_zero'] at y1 y2
 obtain ⟨u, hu⟩ : ∃ u, r.nums[0] = u := ⟨_, rfl⟩
 rw [hu] at y2
 have hu32 : u < 4294967296 := by rw [<- hu]; exact hnum _ (List.getElem_mem hm0)
 have HY1 := Lib.hid y1
 have HY2 := Lib.hid y2
 obtain ⟨x, hx⟩ : ∃ x, Lib.decDigits u = x := ⟨_, rfl⟩
 have hxl : x.length <= 100 := by rw [<- hx]; have := dec_len u (by omega); omega
 obtain ⟨z, hz⟩ : ∃ z, Nm.text r.names[0] = z := ⟨_, rfl⟩
 have hzl : z.length <= 5000000 := by rw [<- hz]; exact nm_text_len (HNB.out)
 have HXZ : Hid (x ++ [32] ++ z = out) := by show _ = _; rw [<- hx, <- hz, <- hu, <- HO.out]; exact HEQ.out
 have HD : Hid (∀ W, Calls Tryz.prog 35 #[.int .i64 (u : Int)] W (Gives (S x) W)) := fun W => by
  have := refDecimal_any u (by omega) W
  rw [hx] at this; exact this
 have HN : Hid (∀ W, Below w.heap.size w W -> Calls Tryz.prog 34 #[v] W (Gives (S z) W)) := fun W hb => by
  have := refNameText_any v r.names[0] W (HRV.out.below hb) HNB.out
  rw [hz] at this; exact this
 have hwc : IntKind.i64.wrap (u : Int) = (u : Int) := by rw [IntKind.wrap_i64]; omega
 clear htp f hv hu hx hz y1 y2
 obtain ⟨W1, hW1⟩ : ∃ W1, w.alloc (.cells #[.int .i64 15, .slice (some a1) 1 cn, .slice (some a2) 1 cm, .slice ot lt ct, .slice or lr cr] 38) = W1 := ⟨_, rfl⟩
 have hb1 : Below w.heap.size w W1 := by subst hW1; exact (Below.refl _ _).alloc (Nat.le_refl _) _
 have hblk : Blk w.heap.size #[.int .i64 15, .slice (some a1) 1 cn, .slice (some a2) 1 cm, .slice ot lt ct, .slice or lr cr] 38 W1 := by subst hW1; exact Blk.new w _ _
 have HB := Lib.hid hb1
 have HBL := Lib.hid hblk
 have d0 : W1.cell? ⟨w.heap.size, 0, none⟩ = some _ := hblk.cell 0
 have d1 : W1.cell? ⟨w.heap.size, 1, none⟩ = some _ := hblk.cell 1
 have d2 : W1.cell? ⟨w.heap.size, 2, none⟩ = some _ := hblk.cell 2
 have d3 : W1.cell? ⟨w.heap.size, 3, none⟩ = some _ := hblk.cell 3
 have d4 : W1.cell? ⟨w.heap.size, 4, none⟩ = some _ := hblk.cell 4
 clear h1 h1' h2 h3 h4 hf hnum hus e2 e4 hln hlm hlt hlr hout hb1 hblk hfm
 refine (callsIn_wide (n := 0)).1 ?_
 refine callsIn_of_wp Tryz.func37 rfl trivial ?_ rfl
 simp only [Tryz.ntmps37, List.size_toArray, List.length_cons, List.length_nil, Nat.reduceAdd, Nat.reduceSub, Array.replicate_succ, Array.replicate_zero, List.push_toArray, List.append_toArray, List.nil_append, List.cons_append]
 gi_wp2_with fail
 clear d0 d1 d2 d3 d4 hW1
 have HST : Hid (∀ W', Below W1.heap.size W1 W' -> W'.cell? ⟨w.heap.size, 1, none⟩ = some (.slice (some a1) 1 cn) /\ W'.cell? ⟨w.heap.size, 2, none⟩ = some (.slice (some a2) 1 cm) /\ W'.cell? a1 = some v /\ W'.cell? a2 = some (.int .u32 (u : Int))) := fun W' hb => ⟨(HBL.out.below hb).cell 1, (HBL.out.below hb).cell 2, ((below5 HB.out hb).cell (cell_lt HY1.out)).trans HY1.out, ((below5 HB.out hb).cell (cell_lt HY2.out)).trans HY2.out⟩
 refine drawnH [1, 3, 4, 5, 6, 8, 9, 10, 11, 12] (fun W' => W'.cell? ⟨w.heap.size, 1, none⟩ = some (.slice (some a1) 1 cn) /\ W'.cell? ⟨w.heap.size, 2, none⟩ = some (.slice (some a2) 1 cm) /\ W'.cell? a1 = some v /\ W'.cell? a2 = some (.int .u32 (u : Int))) 14 rfl (by kernel_rfl) ?_
 intro w' hw'
 have hbd : Below W1.heap.size W1 w' := by subst hw'; exact (Below.refl _ _).drew
 have hS := HST.out _ hbd
 have HBD := Lib.hid hbd
 clear hw' hbd
 refine tP 0 ?qbv0 (fun w1 _ => ?qby0) ?_
 case qby0 => go_simp; try rfl
 refine tP 7 ?qbv7 (fun w1 _ => ?qby7) ?_
 case qby7 => go_simp; try rfl
 simp only [Act.put, List.setIfInBounds_toArray, List.set_cons_succ, List.set_cons_zero]
 refine tH 1 ?qbv1 hS (fun w1 ⟨s0, s1, s2, s3⟩ => ?qby1) ?_
 case qby1 => go_simp; try rfl
 simp only [Act.put, List.setIfInBounds_toArray, List.set_cons_succ, List.set_cons_zero]
 refine tP 2 ?qbv2 (fun w1 _ => ?qby2) ?_
 case qby2 => go_simp; try rfl
 simp only [Act.put, List.setIfInBounds_toArray, List.set_cons_succ, List.set_cons_zero]
 refine tH 3 ?qbv3 hS (fun w1 ⟨s0, s1, s2, s3⟩ => ?qby3) ?_
 case qby3 => go_simp; try rfl
 refine tH 4 ?qbv4 hS (fun w1 ⟨s0, s1, s2, s3⟩ => ?qby4) ?_
 case qby4 => go_simp; try rfl
 refine tH 8 ?qbv8 hS (fun w1 ⟨s0, s1, s2, s3⟩ => ?qby8) ?_
 case qby8 => go_simp; try rfl
 refine tH 9 ?qbv9 hS (fun w1 ⟨s0, s1, s2, s3⟩ => ?qby9) ?_
 case qby9 => go_simp; try rfl
 refine tH 10 ?qbv10 hS (fun w1 ⟨s0, s1, s2, s3⟩ => ?qby10) ?_
 case qby10 => go_simp; try rfl
 simp only [Act.put, List.setIfInBounds_toArray, List.set_cons_succ, List.set_cons_zero]
 clear hS
 refine oneH 5 (by rfl) (by kernel_rfl) (fun K hK => ?_)
 gi_wp2_with fail
 refine (callsIn_wide.2 (HD.out _)).mono ?_
 rintro e w2 ⟨rfl, b2⟩
 have HB2 := Lib.hid (below5 HBD.out b2)
 clear b2
 gi_wp2_with fail
 refine hK _ _ (fun _ => HST.out _ HB2.out) ?_
 clear hK K
 have hS := HST.out _ HB2.out
 refine tH 6 ?qbv6 hS (fun w1 ⟨s0, s1, s2, s3⟩ => ?qby6) ?_
 case qby6 => (go_simp; try first | rfl | (rw [if_pos (by omega)]) | (rw [if_neg (by omega)]) | (rw [if_neg (by simp; omega)]) | (split <;> first | (exfalso; omega) | rfl))
 simp only [Act.put, List.setIfInBounds_toArray, List.set_cons_succ, List.set_cons_zero]
 clear hS
 refine oneH 11 (by rfl) (by kernel_rfl) (fun K hK => ?_)
 gi_wp2_with fail
 refine (callsIn_wide.2 (HN.out _ (below5 HB.out HB2.out))).mono ?_
 rintro e w3 ⟨rfl, b3⟩
 have HB3 := Lib.hid (below5 HB2.out b3)
 clear b3
 gi_wp2_with fail
 refine hK _ _ (fun _ => HST.out _ HB3.out) ?_
 clear hK K
 have hS := HST.out _ HB3.out
 refine tH 12 ?qbv12 hS (fun w1 ⟨s0, s1, s2, s3⟩ => ?qby12) ?_
 case qby12 => (go_simp; try first | rfl | (rw [if_pos (by omega)]) | (rw [if_neg (by omega)]) | (rw [if_neg (by simp; omega)]) | (split <;> first | (exfalso; omega) | rfl))
 simp only [Act.put, List.setIfInBounds_toArray, List.set_cons_succ, List.set_cons_zero]
 clear hS
 refine oneH 13 (by rfl) (by kernel_rfl) (fun K hK => ?_)
 gi_wp2_with fail
 refine hK _ _ (fun h => by simp at h) ?_
 clear hK K
 refine doneH (by kernel_rfl) ?_
 gi_wp2_with fail
 go_ret
 refine ⟨?_, below5 HB.out HB3.out⟩
 rw [<- HXZ.out]
 exact congrArg Ending.returned (show Value.string _ = Value.string _ by congr 2)
set_option maxHeartbeats 8000000 in
theorem dtextN_any (vs : List Value) (r : Rc.PRec) (w : World) (h : DatRd vs r w) (hf : DF r) (hnum : ∀ n ∈ r.nums, n < 4294967296) (hfm : Tw.form r) (t : Int) (htp : r.type = t) (ht : t = 2 \/ t = 5 \/ t = 12 \/ t = 39 \/ t = 6) :
  Calls Tryz.prog 37 #[.agg vs.toArray] w (Gives (S (Tw.dtext r)) w) := by
 obtain ⟨vn, vm, vt, vr, rfl, ⟨us, hus, h1, h1'⟩, h2, h3, h4⟩ := h
 obtain ⟨on, cn, rfl, c1, c1'⟩ := h1.form
 obtain ⟨om, cm, rfl, c2, c2'⟩ := h2.form
 obtain ⟨ot, ct, rfl, c3, c3'⟩ := h3.form
 obtain ⟨or, cr, rfl, c4, c4'⟩ := Sl.form h4
 have H1 := Lib.hid (And.intro h1 h1')
 have H2 := Lib.hid h2
 have H3 := Lib.hid h3
 have H4 := Lib.hid h4
 have HF := Lib.hid hf
 have HNUM := Lib.hid hnum
 have e2 : (numC r.nums).length = r.nums.length := by simp [numC]
 have e4 : (r.raw.map fun b : UInt8 => Value.int .u8 (b.toNat : Int)).length = r.raw.length := by simp
 rw [e2] at c2 ⊢
 rw [e4] at c4 ⊢
 rw [hus] at c1 ⊢
 unfold maxLen at c1' c2' c4'
 obtain ⟨ln, hln⟩ : ∃ ln, r.names.length = ln := ⟨_, rfl⟩
 obtain ⟨lm, hlm⟩ : ∃ lm, r.nums.length = lm := ⟨_, rfl⟩
 obtain ⟨lt, hlt⟩ : ∃ lt, r.texts.length = lt := ⟨_, rfl⟩
 obtain ⟨lr, hlr⟩ : ∃ lr, r.raw.length = lr := ⟨_, rfl⟩
 rw [hln] at c1 ⊢
 rw [hlm] at c2 ⊢
 rw [hlt] at c3 ⊢
 rw [hlr] at c4 ⊢
 have HUS := Lib.hid (hus.trans hln)
 have HL := Lib.hid (And.intro hln (And.intro hlm (And.intro hlt hlr)))
 have b1 : ln <= 8 := by rw [<- hln]; exact hf.names
 have b2 : lm <= 12 := by rw [<- hlm]; exact hf.nums
 have b3 : lt <= 40 := by rw [<- hlt]; exact hf.texts
 have b4 : lr <= 1100 := by rw [<- hlr]; exact hf.raw
 obtain ⟨out, hout⟩ : ∃ x, Tw.dtext r = x := ⟨_, rfl⟩
 rw [hout]
 have HO := Lib.hid hout
 have hne : r.type ≠ 1 /\ r.type ≠ 28 /\ r.type ≠ 15 /\ r.type ≠ 16 := by omega
 have HEQ : Hid (Lib.join (r.names.map Nm.text ++ r.nums.map Lib.decDigits) [32] = Tw.dtext r) := by
  have x4 : r.texts = [] := List.length_eq_zero_iff.1 (by have := hfm.2.2.2; unfold Tw.txs at this; rw [if_neg (by omega)] at this; exact this)
  show _ = _
  unfold Tw.dtext Tw.words Tw.base
  rw [if_neg hne.1, if_neg hne.2.1, if_pos (by rw [htp]; rcases ht with rfl | rfl | rfl | rfl | rfl <;> decide), x4, if_neg hne.2.2.1, if_neg hne.2.2.1]
  simp
 rw [htp]
 have HLEN : Hid (∀ s ∈ r.names.map Nm.text ++ r.nums.map Lib.decDigits, s.length <= 5000000) := fun s hs => by
  rcases List.mem_append.1 hs with hs | hs
  ·obtain ⟨n, hn, rfl⟩ := List.mem_map.1 hs
   exact nm_text_len (NB.few (hf.name _ hn))
  ·obtain ⟨n, hn, rfl⟩ := List.mem_map.1 hs
   have := dec_len n (by have := hnum n hn; omega); omega
 have hlnz : (ln : Int) <= 8 := by omega
 have hlmz : (lm : Int) <= 12 := by omega
 have HT := Lib.hid htp
 clear htp hne
 obtain ⟨W1, hW1⟩ : ∃ W1, w.alloc (.cells #[.int .i64 t, .slice on ln cn, .slice om lm cm, .slice ot lt ct, .slice or lr cr] 38) = W1 := ⟨_, rfl⟩
 have hb1 : Below w.heap.size w W1 := by subst hW1; exact (Below.refl _ _).alloc (Nat.le_refl _) _
 have hblk : Blk w.heap.size #[.int .i64 t, .slice on ln cn, .slice om lm cm, .slice ot lt ct, .slice or lr cr] 38 W1 := by subst hW1; exact Blk.new w _ _
 have HB := Lib.hid hb1
 have HBL := Lib.hid hblk
 have d0 : W1.cell? ⟨w.heap.size, 0, none⟩ = some _ := hblk.cell 0
 have d1 : W1.cell? ⟨w.heap.size, 1, none⟩ = some _ := hblk.cell 1
 have d2 : W1.cell? ⟨w.heap.size, 2, none⟩ = some _ := hblk.cell 2
 have d3 : W1.cell? ⟨w.heap.size, 3, none⟩ = some _ := hblk.cell 3
 have d4 : W1.cell? ⟨w.heap.size, 4, none⟩ = some _ := hblk.cell 4
 clear h1 h1' h2 h3 h4 hf hnum hus e2 e4 hln hlm hlt hlr hout hb1 hblk hfm
 rcases ht with rfl | rfl | rfl | rfl | rfl
 all_goals
  refine (callsIn_wide (n := 0)).1 ?_
  refine callsIn_of_wp Tryz.func37 rfl trivial ?_ rfl
  simp only [Tryz.ntmps37, List.size_toArray, List.length_cons, List.length_nil, Nat.reduceAdd, Nat.reduceSub, Array.replicate_succ, Array.replicate_zero, List.push_toArray, List.append_toArray, List.nil_append, List.cons_append]
  gi_wp2_with fail
  clear d0 d1 d2 d3 d4
  gi_loopw [3, 7] (fun v3 v7 W => ∃ k : Nat, k <= ln /\ v7 = .int .i64 (k : Int) /\ Row (fun g => W1.heap.size <= g) 9 1 v3 k (((r.names.take k).map Nm.text).map S) W /\ Below W1.heap.size W1 W) (fun _ v7 _ => ln - (intOf v7).toNat)
  case atStart => exact ⟨0, Nat.zero_le _, rfl, Row.nil _ _ _ _, Below.refl _ _⟩
  case round =>
   obtain ⟨k, hk, rfl, hrow, hbx⟩ := hrel
   have HBX := Lib.hid hbx
   have HB2 := Lib.hid (below5 HB.out hbx)
   have HROW := Lib.hid hrow
   clear hbx hrow
   by_cases hlt : k < ln
   case pos =>
    have hlz : (k : Int) < (ln : Int) := by omega
    have hku : k < us.length := by rw [HUS.out]; exact hlt
    have hkt : k < r.names.length := by rw [HL.out.1]; exact hlt
    obtain ⟨a, rfl, y⟩ := H1.out.1.cells _ HB2.out k hku
    obtain ⟨v, hv⟩ : ∃ v, us[k] = v := ⟨_, rfl⟩
    rw [hv] at y
    have HRV : Hid (Rd v r.names[k] w) := by show Rd _ _ _; rw [<- hv]; exact H1.out.2 k hku hkt
    have HNB : Hid (NB r.names[k]) := NB.few (HF.out.name _ (List.getElem_mem hkt))
    have q1 : wr.cell? ⟨w.heap.size, 1, none⟩ = some _ := (HBL.out.below HBX.out).cell 1
    obtain ⟨x, hx⟩ : ∃ x, Nm.text r.names[k] = x := ⟨_, rfl⟩
    have HN : Hid (∀ W, Below w.heap.size w W -> Calls Tryz.prog 34 #[v] W (Gives (S x) W)) := fun W hb => by
     have := refNameText_any v r.names[k] W (HRV.out.below hb) HNB.out
     rw [hx] at this; exact this
    have HXX := Lib.hid hx
    clear hv hx
    have HS : Hid ((r.names.take (k + 1)).map Nm.text = (r.names.take k).map Nm.text ++ [x]) := by
     show _ = _
     rw [flat_take _ _ _ hkt, HXX.out]
    gi_wp2_with fail
    refine (callsIn_wide.2 (HN.out _ HB2.out)).mono ?_
    rintro e w2 ⟨rfl, b2⟩
    have HB3 := Lib.hid (below5 HB2.out b2)
    have HBX3 := Lib.hid (below5 HBX.out b2)
    have HR3 := Lib.hid (HROW.out.below b2)
    clear b2
    gi_wp2_with (gi_at_builtin; refine append_rd (fun g => W1.heap.size <= g) rfl _ _ _ Tryz.underlying22 rfl _ k _ (by rfl) (HR3.out.alloc _) _ [x] (by rfl) (Tw.rd1 _ _) (by simp; omega) (by have := HBX3.out.size; simp; omega) ?_; intro v10 w10 hrow10 hgr10)
    refine ⟨⟨k + 1, hlt, by go_num, by rw [HS.out]; exact hrow10, ?_⟩, by simp [intOf]; omega⟩
    have hbn : Below W1.heap.size W1 (w2.alloc (.cells #[S x] 9)) := HBX3.out.alloc HBX3.out.size _
    exact hbn.grown hgr10 hbn.size (fun g hg => HR3.out.2 g hg)
   case neg =>
    obtain rfl : ln = k := by omega
    have hlz : ¬ (ln : Int) < (ln : Int) := by omega
    have htk : r.names.take ln = r.names := List.take_of_length_le (by rw [HL.out.1]; exact Nat.le_refl _)
    rw [htk] at HROW
    have HROWA : Hid (Row (fun g => W1.heap.size <= g) 9 1 u3 (ln + 0) ((r.names.map Nm.text ++ (r.nums.take 0).map Lib.decDigits).map S) wr) := by
     show Row _ _ _ _ _ _ _
     rw [List.take_zero, List.map_nil, List.append_nil]; exact HROW.out
    have HBXA := Lib.hid HBX.out
    have q1 : wr.cell? ⟨w.heap.size, 1, none⟩ = some _ := (HBL.out.below HBX.out).cell 1
    gi_wp2_with fail
    clear htk HROW HBX HB2 q1
    gi_loopw [3, 8] (fun v3 v8 W => ∃ k : Nat, k <= lm /\ v8 = .int .i64 (k : Int) /\ Row (fun g => W1.heap.size <= g) 9 1 v3 (ln + k) ((r.names.map Nm.text ++ (r.nums.take k).map Lib.decDigits).map S) W /\ Below W1.heap.size W1 W) (fun _ v8 _ => lm - (intOf v8).toNat)
    case atStart => exact ⟨0, Nat.zero_le _, rfl, HROWA.out, HBXA.out⟩
    case round =>
     obtain ⟨k, hk, rfl, hrow, hbx⟩ := hrel
     have HBX := Lib.hid hbx
     have HB2 := Lib.hid (below5 HB.out hbx)
     have HROW := Lib.hid hrow
     clear hbx hrow
     by_cases hlt : k < lm
     case pos =>
      have hlz : (k : Int) < (lm : Int) := by omega
      have hkt : k < r.nums.length := by rw [HL.out.2.1]; exact hlt
      obtain ⟨a, rfl, y⟩ := H2.out.cells _ HB2.out k (by rw [show (numC r.nums).length = r.nums.length by simp [numC]]; exact hkt)
      rw [numC_at hkt] at y
      obtain ⟨u, hu⟩ : ∃ u, r.nums[k] = u := ⟨_, rfl⟩
      rw [hu] at y
      have hu32 : u < 4294967296 := by rw [<- hu]; exact HNUM.out _ (List.getElem_mem hkt)
      have hwc : IntKind.i64.wrap (u : Int) = (u : Int) := by rw [IntKind.wrap_i64]; omega
      have q2 : wr.cell? ⟨w.heap.size, 2, none⟩ = some _ := (HBL.out.below HBX.out).cell 2
      obtain ⟨x, hx⟩ : ∃ x, Lib.decDigits u = x := ⟨_, rfl⟩
      have HD : Hid (∀ W, Calls Tryz.prog 35 #[.int .i64 (u : Int)] W (Gives (S x) W)) := fun W => by
       have := refDecimal_any u (by omega) W
       rw [hx] at this; exact this
      have HZZ := Lib.hid hu
      have HXX := Lib.hid hx
      clear hu hx
      have HS : Hid (r.names.map Nm.text ++ (r.nums.take (k + 1)).map Lib.decDigits = r.names.map Nm.text ++ (r.nums.take k).map Lib.decDigits ++ [x]) := by
       show _ = _
       rw [flat_take _ _ _ hkt, HZZ.out, HXX.out, List.append_assoc]
      gi_wp2_with fail
      refine (callsIn_wide.2 (HD.out _)).mono ?_
      rintro e w2 ⟨rfl, b2⟩
      have HB3 := Lib.hid (below5 HB2.out b2)
      have HBX3 := Lib.hid (below5 HBX.out b2)
      have HR3 := Lib.hid (HROW.out.below b2)
      clear b2
      gi_wp2_with (gi_at_builtin; refine append_rd (fun g => W1.heap.size <= g) rfl _ _ _ Tryz.underlying22 rfl _ (ln + k) _ (by rfl) (HR3.out.alloc _) _ [x] (by rfl) (Tw.rd1 _ _) (by simp; omega) (by have := HBX3.out.size; simp; omega) ?_; intro v10 w10 hrow10 hgr10)
      refine ⟨⟨k + 1, hlt, by go_num, by rw [HS.out]; exact hrow10, ?_⟩, by simp [intOf]; omega⟩
      have hbn : Below W1.heap.size W1 (w2.alloc (.cells #[S x] 9)) := HBX3.out.alloc HBX3.out.size _
      exact hbn.grown hgr10 hbn.size (fun g hg => HR3.out.2 g hg)
     case neg =>
      obtain rfl : lm = k := by omega
      have hlz : ¬ (lm : Int) < (lm : Int) := by omega
      have htk : r.nums.take lm = r.nums := List.take_of_length_le (by rw [HL.out.2.1]; exact Nat.le_refl _)
      rw [htk] at HROW
      clear htk
      have q2 : wr.cell? ⟨w.heap.size, 2, none⟩ = some _ := (HBL.out.below HBX.out).cell 2
      have hrd : Rd u3 (r.names.map Nm.text ++ r.nums.map Lib.decDigits) wr := Rd.of_row (R := fun g => W1.heap.size <= g) (e := 9) (by rw [show (r.names.map Nm.text ++ r.nums.map Lib.decDigits).length = (ln + lm) by rw [List.length_append, List.length_map, List.length_map, HL.out.1, HL.out.2.1]]; exact HROW.out)
      have HJ : Hid (Calls Tryz.prog 74 #[u3, S [32]] wr (Gives (S out) wr)) := by
       have := joined2_any u3 (r.names.map Nm.text ++ r.nums.map Lib.decDigits) [32] wr hrd (by rw [show (r.names.map Nm.text ++ r.nums.map Lib.decDigits).length = (ln + lm) by rw [List.length_append, List.length_map, List.length_map, HL.out.1, HL.out.2.1]]; omega) (by decide) (fun s hs => HLEN.out s hs)
       rw [show Lib.join (r.names.map Nm.text ++ r.nums.map Lib.decDigits) [32] = out by rw [<- HO.out]; exact HEQ.out] at this
       exact this
      clear hrd
      gi_wp2_with fail
      refine (callsIn_wide.2 HJ.out).mono ?_
      rintro e w2 ⟨rfl, b2⟩
      have HB3 := Lib.hid (below5 HB2.out b2)
      clear b2
      gi_wp2_with fail
      go_ret
      exact ⟨rfl, HB3.out⟩
end Go.Proofs.YtgmbefolgppmdaaGreatDoor
end
