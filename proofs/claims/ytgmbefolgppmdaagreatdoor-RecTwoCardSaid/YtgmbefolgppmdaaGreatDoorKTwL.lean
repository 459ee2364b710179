/- The reference: the text of data of a type without a name; of any data; of a record. -/
import Derived.Test.YtgmbefolgppmdaaGreatDoorKTwJ
import Derived.Test.YtgmbefolgppmdaaGreatDoorKReg
section
namespace Go.Proofs.YtgmbefolgppmdaaGreatDoor
open Go.RowKit Go.Shelf Go.Sort
set_option maxRecDepth 100000
set_option maxHeartbeats 8000000 in
theorem dtextU_any (vs : List Value) (r : Rc.PRec) (w : World) (h : DatRd vs r w) (hf : DF r) (hnum : ∀ n ∈ r.nums, n < 4294967296) (hfm : Tw.form r) (t : Int) (htp : r.type = t) (hk : t ≠ 1 /\ t ≠ 28 /\ t ≠ 2 /\ t ≠ 5 /\ t ≠ 12 /\ t ≠ 39 /\ t ≠ 15 /\ t ≠ 6 /\ t ≠ 16) :
  Calls Tryz.prog 37 #[.agg vs.toArray] w (Gives (S (Tw.dtext r)) w) := by
 obtain ⟨vn, vm, vt, vr, rfl, ⟨us, hus, h1, h1'⟩, h2, h3, h4⟩ := h
 obtain ⟨on, cn, rfl, c1, c1'⟩ := h1.form
 obtain ⟨om, cm, rfl, c2, c2'⟩ := h2.form
 obtain ⟨ot, ct, rfl, c3, c3'⟩ := h3.form
 obtain ⟨or, cr, rfl, c4, c4'⟩ := Sl.form h4
 have H1 := Lib.hid (And.intro h1 h1')
 have H2 := Lib.hid h2
 have H3 := Lib.hid h3
 have H4 := Lib.hid h4
 have HF := Lib.hid hf
 have HNUM := Lib.hid hnum
 have e2 : (numC r.nums).length = r.nums.length := by simp [numC]
 have e4 : (r.raw.map fun b : UInt8 => Value.int .u8 (b.toNat : Int)).length = r.raw.length := by simp
 rw [e2] at c2 ⊢
 rw [e4] at c4 ⊢
 rw [hus] at c1 ⊢
 unfold maxLen at c1' c2' c4'
 obtain ⟨ln, hln⟩ : ∃ ln, r.names.length = ln := ⟨_, rfl⟩
 obtain ⟨lm, hlm⟩ : ∃ lm, r.nums.length = lm := ⟨_, rfl⟩
 obtain ⟨lt, hlt⟩ : ∃ lt, r.texts.length = lt := ⟨_, rfl⟩
 obtain ⟨lr, hlr⟩ : ∃ lr, r.raw.length = lr := ⟨_, rfl⟩
 rw [hln] at c1 ⊢
 rw [hlm] at c2 ⊢
 rw [hlt] at c3 ⊢
 rw [hlr] at c4 ⊢
 have HUS := Lib.hid (hus.trans hln)
 have HL := Lib.hid (And.intro hln (And.intro hlm (And.intro hlt hlr)))
 have b1 : ln <= 8 := by rw [<- hln]; exact hf.names
 have b2 : lm <= 12 := by rw [<- hlm]; exact hf.nums
 have b3 : lt <= 40 := by rw [<- hlt]; exact hf.texts
 have b4 : lr <= 1100 := by rw [<- hlr]; exact hf.raw
 obtain ⟨out, hout⟩ : ∃ x, Tw.dtext r = x := ⟨_, rfl⟩
 rw [hout]
 have HO := Lib.hid hout
 have hcnt : Tw.cnt r.type = (0, 0, -1) := by unfold Tw.cnt; rw [htp, if_neg hk.1, if_neg hk.2.1, if_neg (by omega), if_neg hk.2.2.2.2.2.2.1, if_neg hk.2.2.2.2.2.2.2.1, if_neg hk.2.2.2.2.2.2.2.2]
 have hnm : Ty.nameOf t = none := by
  rcases hn : Ty.nameOf t with _ | s
  ·rfl
  ·have h1 := Ty.nameOf_mem hn
   have h2 : ∀ p ∈ Ty.names, p.1 = 1 \/ p.1 = 28 \/ p.1 = 2 \/ p.1 = 5 \/ p.1 = 12 \/ p.1 = 39 \/ p.1 = 15 \/ p.1 = 6 \/ p.1 = 16 := by decide
   have := h2 _ h1
   simp only at this
   omega
 have f := Tw.form_cnt hfm hcnt
 have HEQ : Hid ([92, 35, 32] ++ Lib.decDigits lr ++ (if 0 < lr then [32] else []) ++ Hx.hexB r.raw = Tw.dtext r) := by
  have x1 : r.names = [] := List.length_eq_zero_iff.1 (by omega)
  have x2 : r.nums = [] := List.length_eq_zero_iff.1 (by omega)
  have x4 : r.texts = [] := List.length_eq_zero_iff.1 (by have := f.2.2.2; unfold Tw.txs at this; rw [if_neg (by omega)] at this; exact this)
  show _ = _
  unfold Tw.dtext Tw.words Tw.base
  rw [htp, if_neg hk.1, if_neg hk.2.1, hnm, x1, x2, x4, if_neg hk.2.2.2.2.2.2.1, if_neg hk.2.2.2.2.2.2.1, hlr]
  simp only [Option.isSome_none, Bool.false_eq_true, if_false]
  by_cases h0 : 0 < lr
  ·rw [if_pos h0, if_pos h0]; simp [Lib.join]
  ·rw [if_neg h0, if_neg h0]
   have : r.raw = [] := List.length_eq_zero_iff.1 (by omega)
   rw [this]; simp [Lib.join, Hx.hexB]
 rw [htp]
 have n1 : (t == 1) = false := by simpa using hk.1
 have n28 : (t == 28) = false := by simpa using hk.2.1
 have n2 : (t == 2) = false := by simpa using hk.2.2.1
 have n5 : (t == 5) = false := by simpa using hk.2.2.2.1
 have n12 : (t == 12) = false := by simpa using hk.2.2.2.2.1
 have n39 : (t == 39) = false := by simpa using hk.2.2.2.2.2.1
 have n15 : (t == 15) = false := by simpa using hk.2.2.2.2.2.2.1
 have n6 : (t == 6) = false := by simpa using hk.2.2.2.2.2.2.2.1
 have n16 : (t == 16) = false := by simpa using hk.2.2.2.2.2.2.2.2
 have hlrz : (lr : Int) <= 1100 := by omega
 obtain ⟨x, hx⟩ : ∃ x, Lib.decDigits lr = x := ⟨_, rfl⟩
 have hxl : x.length <= 100 := by rw [<- hx]; have := dec_len lr (by omega); omega
 have HD : Hid (∀ W, Calls Tryz.prog 35 #[.int .i64 (lr : Int)] W (Gives (S x) W)) := fun W => by
  have := refDecimal_any lr (by omega) W
  rw [hx] at this; exact this
 rw [hx] at HEQ
 clear htp f hcnt hnm hk hx
 obtain ⟨W1, hW1⟩ : ∃ W1, w.alloc (.cells #[.int .i64 t, .slice on ln cn, .slice om lm cm, .slice ot lt ct, .slice or lr cr] 38) = W1 := ⟨_, rfl⟩
 have hb1 : Below w.heap.size w W1 := by subst hW1; exact (Below.refl _ _).alloc (Nat.le_refl _) _
 have hblk : Blk w.heap.size #[.int .i64 t, .slice on ln cn, .slice om lm cm, .slice ot lt ct, .slice or lr cr] 38 W1 := by subst hW1; exact Blk.new w _ _
 have HB := Lib.hid hb1
 have HBL := Lib.hid hblk
 have d0 : W1.cell? ⟨w.heap.size, 0, none⟩ = some _ := hblk.cell 0
 have d1 : W1.cell? ⟨w.heap.size, 1, none⟩ = some _ := hblk.cell 1
 have d2 : W1.cell? ⟨w.heap.size, 2, none⟩ = some _ := hblk.cell 2
 have d3 : W1.cell? ⟨w.heap.size, 3, none⟩ = some _ := hblk.cell 3
 have d4 : W1.cell? ⟨w.heap.size, 4, none⟩ = some _ := hblk.cell 4
 clear h1 h1' h2 h3 h4 hf hnum hus e2 e4 hln hlm hlt hlr hout hb1 hblk hfm
 refine (callsIn_wide (n := 0)).1 ?_
 refine callsIn_of_wp Tryz.func37 rfl trivial ?_ rfl
 simp only [Tryz.ntmps37, List.size_toArray, List.length_cons, List.length_nil, Nat.reduceAdd, Nat.reduceSub, Array.replicate_succ, Array.replicate_zero, List.push_toArray, List.append_toArray, List.nil_append, List.cons_append]
 gi_wp2_with fail
 clear d0 d1 d2 d3 d4
 refine (callsIn_wide.2 (HD.out _)).mono ?_
 rintro e w2 ⟨rfl, b2⟩
 have HB2 := Lib.hid b2
 have e4 : w2.cell? ⟨w.heap.size, 4, none⟩ = some _ := (HBL.out.below b2).cell 4
 clear b2 hW1
 by_cases h0 : 0 < lr
 ·have h0z : (0 : Int) < (lr : Int) := by omega
  obtain ⟨p, hp⟩ : ∃ p, [92, 35, 32] ++ x ++ [32] = p := ⟨_, rfl⟩
  have HPE := Lib.hid hp
  have HPL : Hid (p.length <= 200) := by show _ <= _; rw [<- hp]; simp; omega
  have HPO : Hid ([92, 35, 32] ++ x ++ (if 0 < lr then [32] else []) ++ Hx.hexB r.raw = p ++ Hx.hexB r.raw) := by show _ = _; rw [if_pos h0, <- hp]
  have HO2 : Hid ([92, 35, 32] ++ x ++ (if 0 < lr then [32] else []) ++ Hx.hexB r.raw = out) := HEQ.out.trans HO.out
  clear hp
  gi_wp2_with fail
  gi_loopw [9, 10] (fun v9 v10 W => ∃ k : Nat, k <= lr /\ v10 = .int .i64 (k : Int) /\ v9 = S (p ++ Hx.hexB (r.raw.take k)) /\ Below W1.heap.size W1 W) (fun _ v10 _ => lr - (intOf v10).toNat)
  case atStart => exact ⟨0, Nat.zero_le _, rfl, by rw [List.take_zero, show Hx.hexB [] = [] from rfl, List.append_nil, <- HPE.out]; show Value.string _ = Value.string _; congr 2, HB2.out⟩
  case round =>
   obtain ⟨k, hk, rfl, rfl, hbx⟩ := hrel
   have HBX := Lib.hid hbx
   have HB3 := Lib.hid (below5 HB.out hbx)
   clear hbx HB2
   have q4 : wr.cell? ⟨w.heap.size, 4, none⟩ = some _ := (HBL.out.below HBX.out).cell 4
   have hql : (p ++ Hx.hexB (r.raw.take k)).length <= 10000 := by have h1 := Hx.hexB_len (r.raw.take k); have h2 := HPL.out; rw [List.length_append, h1, List.length_take]; omega
   by_cases hlt : k < lr
   ·have hlz : (k : Int) < (lr : Int) := by omega
    have hkr : k < r.raw.length := by rw [HL.out.2.2.2]; exact hlt
    obtain ⟨a, rfl, y⟩ := H4.out.cells _ HB3.out k (by rw [List.length_map]; exact hkr)
    rw [List.getElem_map] at y
    have HT := Lib.hid (Hx.hexB_take r.raw k hkr)
    obtain ⟨c, hc⟩ : ∃ c, r.raw[k] = c := ⟨_, rfl⟩
    rw [hc] at y HT
    have hc255 : (c.toNat : Int) <= 255 := by have := c.toNat_lt; omega
    have hwc : IntKind.i64.wrap (c.toNat : Int) = (c.toNat : Int) := by rw [IntKind.wrap_i64]; omega
    have hel : (Hx.hexC c).length <= 4 := by simp [Hx.hexC]
    have HX2 : Hid (∀ W, Calls Tryz.prog 75 #[.int .i64 (c.toNat : Int), .int .i64 2] W (Gives (S (Hx.hexC c)) W)) := fun W => by
     have := refHex_any c.toNat 2 (by omega) (by decide) W
     rw [Hx.hexP_two] at this; exact this
    obtain ⟨q, hq⟩ : ∃ q, p ++ Hx.hexB (r.raw.take k) = q := ⟨_, rfl⟩
    have HS : Hid (p ++ Hx.hexB (r.raw.take (k + 1)) = q ++ Hx.hexC c) := by show _ = _; rw [HT.out, <- hq, List.append_assoc]
    rw [hq] at hql ⊢
    obtain ⟨z, hz⟩ : ∃ z, Hx.hexC c = z := ⟨_, rfl⟩
    rw [hz] at HX2 HS hel
    clear hc hq hz HT
    gi_wp2_with fail
    refine (callsIn_wide.2 (HX2.out _)).mono ?_
    rintro e w2 ⟨rfl, b2⟩
    have HBX3 := Lib.hid (below5 HBX.out b2)
    clear b2
    gi_wp2_with fail
    refine ⟨⟨k + 1, hlt, by go_num, ?_, HBX3.out⟩, by simp [intOf]; omega⟩
    rw [HS.out]; show Value.string _ = Value.string _; congr 2
   ·obtain rfl : lr = k := by omega
    have hlz : ¬ ((lr : Int) < (lr : Int)) := by omega
    have htk : r.raw.take lr = r.raw := List.take_of_length_le (by rw [HL.out.2.2.2]; exact Nat.le_refl _)
    rw [htk] at hql ⊢
    have HE : Hid (p ++ Hx.hexB r.raw = out) := by show _ = _; rw [<- HPO.out]; exact HO2.out
    clear htk
    gi_wp2_with fail
    go_ret
    rw [<- HE.out]
    exact ⟨rfl, HB3.out⟩
 ·obtain rfl : lr = 0 := by omega
  have hln0 := HL.out.2.2.2
  have hrw0 : r.raw = [] := List.length_eq_zero_iff.1 hln0
  have HE : Hid ([92, 35, 32] ++ x = out) := by
   have e := HEQ.out.trans HO.out
   rw [if_neg h0, hrw0, show Hx.hexB [] = [] from rfl, List.append_nil, List.append_nil] at e; exact e
  clear hln0 hrw0
  gi_wp2_with fail
  gi_loopw [9, 10] (fun v9 v10 W => v10 = .int .i64 0 /\ v9 = S ([92, 35, 32] ++ x) /\ w2 = W) (fun _ _ _ => 0)
  case atStart => exact ⟨rfl, (show Value.string _ = Value.string _ by congr 2), rfl⟩
  case round =>
   obtain ⟨rfl, rfl, rfl⟩ := hrel
   gi_wp2_with fail
   go_ret
   rw [<- HE.out]
   exact ⟨rfl, below5 HB.out HB2.out⟩
theorem refDataText_any (vs : List Value) (r : Rc.PRec) (w : World) (h : DatRd vs r w) (hf : DF r) (hnum : ∀ n ∈ r.nums, n < 4294967296) (hfm : Tw.form r) :
  Calls Tryz.prog 37 #[.agg vs.toArray] w (Gives (S (Tw.dtext r)) w) := by
 by_cases h1 : r.type = 1
 ·exact dtextA2_any vs r w h hf hnum hfm h1
 by_cases h28 : r.type = 28
 ·exact dtext28_any vs r w h hf hnum hfm h28
 by_cases h16 : r.type = 16
 ·exact dtext16_any vs r w h hf hnum hfm h16
 by_cases h15 : r.type = 15
 ·exact dtext15_any vs r w h hf hnum hfm h15
 by_cases hn : r.type = 2 \/ r.type = 5 \/ r.type = 12 \/ r.type = 39 \/ r.type = 6
 ·exact dtextN_any vs r w h hf hnum hfm _ rfl hn
 ·exact dtextU_any vs r w h hf hnum hfm _ rfl (by omega)
end Go.Proofs.YtgmbefolgppmdaaGreatDoor
end
section
namespace Go.Proofs.YtgmbefolgppmdaaGreatDoor
open Go.RowKit Go.Shelf
set_option maxRecDepth 100000
theorem Ty.text_len (t : Nat) (h : t < 100000) : (Ty.text t).length <= 1000 := by
 unfold Ty.text
 rcases hn : Ty.nameOf t with _ | s
 ·have := dec_len t (by omega); simp; omega
 ·have h1 := Ty.nameOf_mem hn
  have h2 : ∀ p ∈ Ty.names, p.2.length <= 10 := by decide
  have := h2 _ h1
  simp only at this ⊢; omega
namespace Tw
theorem word_len {r : Rc.PRec} (hf : DF r) (hnum : ∀ n ∈ r.nums, n < 4294967296) : ∀ x ∈ words r, x.length <= 5000000 := by
 have hd : ∀ x ∈ r.nums.map Lib.decDigits, x.length <= 5000000 := fun x hx => by
  obtain ⟨n, hn, rfl⟩ := List.mem_map.1 hx
  have := dec_len n (by have := hnum n hn; omega); omega
 have hb : ∀ x ∈ base r, x.length <= 5000000 := fun x hx => by
  unfold base at hx
  have hc : x ∈ r.nums.map Lib.decDigits \/ x ∈ r.names.map Nm.text \/ x ∈ r.texts.map quo := by
   split at hx <;> simp only [List.mem_append, List.not_mem_nil, false_or, or_false] at hx
   ·rcases hx with (h | h) | h
    ·exact .inl h
    ·exact .inr (.inl h)
    ·exact .inr (.inr h)
   ·rcases hx with (h | h) | h
    ·exact .inr (.inl h)
    ·exact .inl h
    ·exact .inr (.inr h)
  rcases hc with h | h | h
  ·exact hd x h
  ·obtain ⟨n, hn, rfl⟩ := List.mem_map.1 h
   exact nm_text_len (NB.few (hf.name _ hn))
  ·obtain ⟨n, hn, rfl⟩ := List.mem_map.1 h
   have := quo_len n; have := hf.text n hn; omega
 intro x hx
 unfold words at hx
 split at hx
 ·rcases List.mem_append.1 hx with h | h
  ·exact hb x h
  ·rw [List.mem_singleton] at h; subst h; have := Tx.addr_len r.raw; omega
 ·split at hx
  ·rcases List.mem_append.1 hx with h | h
   ·exact hb x h
   ·rw [List.mem_singleton] at h; subst h
    have h1 := Tx.join_len (l := Tx.grp r.raw 2 hex2 8) (sep := [58]) (m := 1000) (fun x hx => by unfold Tx.grp at hx; obtain ⟨i, _, rfl⟩ := List.mem_map.1 hx; exact hex2_len _)
    rw [Tx.grp_len] at h1
    exact Nat.le_trans h1 (by decide)
  ·split at hx
   ·exact hb x hx
   ·rcases List.mem_append.1 hx with h | h
    ·rcases List.mem_append.1 h with h | h
     ·exact hb x h
     ·simp only [List.mem_cons, List.not_mem_nil, or_false] at h
      rcases h with rfl | rfl
      ·decide
      ·have := dec_len r.raw.length (by have := hf.raw; omega); omega
    ·split at h
     ·rw [List.mem_singleton] at h; subst h; rw [Hx.hexB_len]; have := hf.raw; omega
     ·simp at h
theorem words_len {r : Rc.PRec} (hf : DF r) : (words r).length <= 110 := by
 have := base_len hf
 unfold words
 split
 ·simp; omega
 ·split
  ·simp; omega
  ·split
   ·omega
   ·split <;> simp <;> omega
theorem dtext_len {r : Rc.PRec} (hf : DF r) (hnum : ∀ n ∈ r.nums, n < 4294967296) : (dtext r).length <= 1000000000 := by
 have h1 := Tx.join_len (l := words r) (sep := [32]) (m := 5000000) (word_len hf hnum)
 have h2 := Nat.mul_le_mul (words_len hf) (show 5000000 + [32].length <= 5000001 by decide)
 unfold dtext
 omega
theorem base_count (r : Rc.PRec) : (base r).length = r.names.length + r.nums.length + r.texts.length := by
 unfold base; split <;> simp <;> omega
theorem words_ne {r : Rc.PRec} (h : form r) : words r ≠ [] := by
 have hb : (Ty.nameOf r.type).isSome = true -> r.type ≠ 1 -> r.type ≠ 28 -> base r ≠ [] := fun hs h1 h28 he => by
  rcases hn : Ty.nameOf r.type with _ | s
  ·rw [hn] at hs; cases hs
  ·have hm := Ty.nameOf_mem hn
   have h2 : ∀ p ∈ Ty.names, p.1 = 1 \/ p.1 = 28 \/ p.1 = 16 \/ p.1 = 2 \/ p.1 = 5 \/ p.1 = 12 \/ p.1 = 39 \/ p.1 = 15 \/ p.1 = 6 := by decide
   have h3 := h2 _ hm
   simp only at h3
   have hl := congrArg List.length he
   by_cases h16 : r.type = 16
   ·have ht := h.2.2.2
    unfold txs at ht
    rw [if_pos h16] at ht
    rw [base_count] at hl
    have : r.names.length + r.nums.length + r.texts.length = 0 := hl
    omega
   ·have hn1 : 0 < r.names.length := by
     rcases h3 with e | e | e | e | e | e | e | e | e
     ·exact absurd e h1
     ·exact absurd e h28
     ·exact absurd e h16
     all_goals
      have hc := h.1
      rw [e] at hc
      simp [cnt] at hc
      omega
    rw [base_count] at hl
    have : r.names.length + r.nums.length + r.texts.length = 0 := hl
    omega
 unfold words
 split
 ·simp
 ·split
  ·simp
  ·split
   ·rename_i h1 h28 hs; exact hb hs h1 h28
   ·simp
end Tw
set_option maxHeartbeats 2000000 in
theorem dataText_any (vs : List Value) (r : Rc.PRec) (w : World) (h : DatRd vs r w) (hf : DF r) (hnum : ∀ n ∈ r.nums, n < 4294967296) (hfm : Tw.form r) (ht : Tab w) (hdb : Db w) :
  Calls Tryz.prog 33 #[.agg vs.toArray] w (Gives (S (Tw.dtext r)) w) := by
 have h4 : r.type = 1 -> r.raw.length = 4 := fun e => by have := (Tw.form_cnt hfm (show Tw.cnt r.type = (0, 0, 4) by rw [e]; rfl)).2.2.1 (by decide); omega
 have h16 : r.type = 28 -> r.raw.length = 16 := fun e => by have := (Tw.form_cnt hfm (show Tw.cnt r.type = (0, 0, 16) by rw [e]; rfl)).2.2.1 (by decide); omega
 have HC := Lib.hid (fun W (hb : Below w.heap.size w W) => words_any vs r W (h.below hb) hf hnum (fun n hn => NB.few (hf.name n hn)) (ht.below hb) (hdb.below hb) h4 h16 (Tw.words_ne hfm))
 have HAL := Lib.hid (Tw.dtext_len hf hnum)
 have HWL := Lib.hid (Tw.words_len hf)
 obtain ⟨vn, vm, vt, vr, rfl, ⟨us, _, ⟨p1, q1, rfl, _⟩, _⟩, ⟨p2, q2, rfl, _⟩, ⟨p3, q3, rfl, _⟩, ⟨p4, q4, rfl, _⟩⟩ := h
 obtain ⟨t, ht'⟩ : ∃ t, r.type = t := ⟨_, rfl⟩
 obtain ⟨n1, hn1⟩ : ∃ n, us.length = n := ⟨_, rfl⟩
 obtain ⟨n2, hn2⟩ : ∃ n, (numC r.nums).length = n := ⟨_, rfl⟩
 obtain ⟨n3, hn3⟩ : ∃ n, r.texts.length = n := ⟨_, rfl⟩
 obtain ⟨n4, hn4⟩ : ∃ n, (r.raw.map fun b : UInt8 => Value.int .u8 (b.toNat : Int)).length = n := ⟨_, rfl⟩
 rw [ht', hn1, hn2, hn3, hn4] at HC ⊢
 obtain ⟨ws, hws⟩ : ∃ l, Tw.words r = l := ⟨_, rfl⟩
 rw [show Tw.dtext r = Lib.join ws [32] by rw [<- hws]; rfl] at HAL ⊢
 rw [hws] at HC HWL
 clear ht hdb hf hnum hfm h4 h16 ht' hn1 hn2 hn3 hn4 hws
 refine (callsIn_wide (n := 0)).1 ?_
 refine callsIn_of_wp Tryz.func33 rfl trivial ?_ rfl
 simp only [Tryz.ntmps33, List.size_toArray, List.length_cons, List.length_nil, Nat.reduceAdd, Nat.reduceSub, Array.replicate_succ, Array.replicate_zero, List.push_toArray, List.append_toArray, List.nil_append, List.cons_append]
 gi_wp2_with fail
 refine (callsIn_wide.2 (HC.out _ ?hb)).mono ?_
 case hb => exact (Below.refl _ _).alloc (Nat.le_refl _) _
 rintro e w2 ⟨g, c, rfl, hrd, hg, b2⟩
 have HRD := Lib.hid hrd
 have HG := Lib.hid hg
 have HB2 : Hid (Below w.heap.size w w2) := ((Below.refl _ _).alloc (Nat.le_refl _) _).trans (b2.mono (by simp))
 obtain ⟨m, hm⟩ : ∃ m, ws.length = m := ⟨_, rfl⟩
 have HJ : Hid (Calls Tryz.prog 29 #[.slice (some ⟨g, 0, none⟩) m c, S [32]] w2 (Gives (S (Lib.join ws [32])) w2)) := by
  have := sjoin_any g 0 c ws [32] w2 hrd hg (by have := HWL.out; omega) (by have := HAL.out; omega)
  rw [hm] at this; exact this
 rw [hm]
 clear b2 hrd hg hm
 gi_wp2_with fail
 refine (callsIn_wide.2 HJ.out).mono ?_
 rintro e w3 ⟨rfl, b3⟩
 have HB3 := Lib.hid (below5 HB2.out b3)
 gi_wp2_with fail
 go_ret
 exact ⟨rfl, HB3.out⟩
set_option maxHeartbeats 4000000 in
theorem recText_any (vs : List Value) (r : Rc.PRec) (w : World) (h : RecRd vs r w) (no : NB r.owner) (httl : r.ttl < 4294967296) (hf : DF r) (hnum : ∀ n ∈ r.nums, n < 4294967296) (hfm : Tw.form r) (ht1 : 1 <= r.type) (ht2 : r.type <= 65535) (ht : Tab w) (hdb : Db w) :
  Calls Tryz.prog 12 #[.agg vs.toArray] w (Gives (S (Tw.rtext r)) w) := by
 obtain ⟨po, no', qo, p1, n1, q1, p2, n2, q2, p3, n3, q3, p4, n4, q4, rfl, hro, hrd⟩ := h.cells
 obtain ⟨ttl, httl'⟩ : ∃ tt, r.ttl = tt := ⟨_, rfl⟩
 rw [httl'] at httl ⊢
 obtain ⟨t, hty⟩ : ∃ t : Nat, r.type = (t : Int) := ⟨r.type.toNat, by omega⟩
 rw [hty] at hrd ⊢
 obtain ⟨nt, hnt⟩ : ∃ x, Nm.text r.owner = x := ⟨_, rfl⟩
 obtain ⟨dt, hdt⟩ : ∃ x, Tw.dtext r = x := ⟨_, rfl⟩
 obtain ⟨tt, htt⟩ : ∃ x, Ty.text t = x := ⟨_, rfl⟩
 have hdl : dt.length <= 1000000000 := by rw [<- hdt]; exact Tw.dtext_len hf hnum
 have HOUT : Hid (Lib.join [nt, Lib.decDigits ttl, [73, 78], tt, dt] [32] = Tw.rtext r) := by
  show _ = _
  unfold Tw.rtext; rw [hnt, httl', hdt, hty, Int.toNat_natCast, htt]
 have HN := Lib.hid (fun W (hb : Below w.heap.size w W) => (show Calls Tryz.prog 30 #[.slice po no' qo] W (Gives (S nt) W) by rw [<- hnt]; exact nText_any _ r.owner W (hro.below hb) no))
 have HU := Lib.hid (fun W (hb : Below w.heap.size w W) => fmtU_any ttl (by omega) W (ht.below hb))
 have HY := Lib.hid (fun W (hb : Below w.heap.size w W) => (show Calls Tryz.prog 32 #[.int .i64 (t : Int)] W (Gives (S tt) W) by rw [<- htt]; exact typeText_any t (by omega) W (ht.below hb)))
 have HD := Lib.hid (fun W (hb : Below w.heap.size w W) => (show Calls Tryz.prog 33 #[.agg #[.int .i64 (t : Int), .slice p1 n1 q1, .slice p2 n2 q2, .slice p3 n3 q3, .slice p4 n4 q4]] W (Gives (S dt) W) by rw [<- hdt]; exact dataText_any _ r W (hrd.below hb) hf hnum hfm (ht.below hb) (hdb.below hb)))
 have hw : IntKind.u64.wrap (ttl : Int) = ttl := by rw [IntKind.wrap_u64]; omega
 have HL1 := Lib.hid (show nt.length <= 5000000 by rw [<- hnt]; exact nm_text_len no)
 have HL2 := Lib.hid (dec_len ttl (by omega))
 have HL3 := Lib.hid hdl
 have HL4 := Lib.hid (show tt.length <= 1000 by rw [<- htt]; exact Ty.text_len t (by omega))
 clear ht hdb hro hrd no hf hnum hfm hnt hdt htt hty httl' hdl h
 rw [<- HOUT.out]
 refine (callsIn_wide (n := 0)).1 ?_
 refine callsIn_of_wp Tryz.func12 rfl trivial ?_ rfl
 simp only [Tryz.ntmps12, List.size_toArray, List.length_cons, List.length_nil, Nat.reduceAdd, Nat.reduceSub, Array.replicate_succ, Array.replicate_zero, List.push_toArray, List.append_toArray, List.nil_append, List.cons_append]
 gi_wp2_with fail
 obtain ⟨W2, hW2⟩ : ∃ W2, w.alloc (.cells #[.slice po no' qo, .int .u32 (ttl : Int), .int .i64 (t : Int), .slice p1 n1 q1, .slice p2 n2 q2, .slice p3 n3 q3, .slice p4 n4 q4] 31) = W2 := ⟨_, rfl⟩
 rw [hW2]
 have hb2 : Below w.heap.size w W2 := by subst hW2; exact (Below.refl _ _).alloc (Nat.le_refl _) _
 have k0 : Blk w.heap.size #[.slice po no' qo, .int .u32 (ttl : Int), .int .i64 (t : Int), .slice p1 n1 q1, .slice p2 n2 q2, .slice p3 n3 q3, .slice p4 n4 q4] 31 W2 := by subst hW2; exact Blk.new w _ _
 have HB2 := Lib.hid hb2
 have HST : Hid (∀ W', Below W2.heap.size W2 W' -> W'.cell? ⟨w.heap.size, 0, none⟩ = some (.slice po no' qo) /\ W'.cell? ⟨w.heap.size, 1, none⟩ = some (.int .u32 (ttl : Int)) /\ W'.cell? ⟨w.heap.size, 2, none⟩ = some (.int .i64 (t : Int)) /\ W'.cell? ⟨w.heap.size, 3, none⟩ = some (.slice p1 n1 q1) /\ W'.cell? ⟨w.heap.size, 4, none⟩ = some (.slice p2 n2 q2) /\ W'.cell? ⟨w.heap.size, 5, none⟩ = some (.slice p3 n3 q3) /\ W'.cell? ⟨w.heap.size, 6, none⟩ = some (.slice p4 n4 q4)) := fun W' hb =>
  ⟨(k0.below hb).cell 0, (k0.below hb).cell 1, (k0.below hb).cell 2, (k0.below hb).cell 3, (k0.below hb).cell 4, (k0.below hb).cell 5, (k0.below hb).cell 6⟩
 clear hW2 hb2 k0
 refine drawnH [1, 2, 4, 6, 9, 10, 12, 13, 14, 15] (fun W' => W'.cell? ⟨w.heap.size, 0, none⟩ = some (.slice po no' qo) /\ W'.cell? ⟨w.heap.size, 1, none⟩ = some (.int .u32 (ttl : Int)) /\ W'.cell? ⟨w.heap.size, 2, none⟩ = some (.int .i64 (t : Int)) /\ W'.cell? ⟨w.heap.size, 3, none⟩ = some (.slice p1 n1 q1) /\ W'.cell? ⟨w.heap.size, 4, none⟩ = some (.slice p2 n2 q2) /\ W'.cell? ⟨w.heap.size, 5, none⟩ = some (.slice p3 n3 q3) /\ W'.cell? ⟨w.heap.size, 6, none⟩ = some (.slice p4 n4 q4)) 17 rfl (by kernel_rfl) ?_
 intro w' hw'
 have hbd : Below W2.heap.size W2 w' := by subst hw'; exact (Below.refl _ _).drew
 have hS := HST.out _ hbd
 have HBD := Lib.hid hbd
 clear hw' hbd
 refine tP 0 ?qv0 (fun w1 _ => ?qy0) ?_
 case qy0 => go_simp; try rfl
 refine tP 3 ?qv3 (fun w1 _ => ?qy3) ?_
 case qy3 => go_simp; try rfl
 refine tP 7 ?qv7 (fun w1 _ => ?qy7) ?_
 case qy7 => go_simp; try rfl
 refine tP 8 ?qv8 (fun w1 _ => ?qy8) ?_
 case qy8 => go_simp; try rfl
 refine tP 11 ?qv11 (fun w1 _ => ?qy11) ?_
 case qy11 => go_simp; try rfl
 simp only [Act.put, List.setIfInBounds_toArray, List.set_cons_succ, List.set_cons_zero]
 refine tH 4 ?qv4 hS (fun w1 ⟨d0, d1, d2, d3, d4, d5, d6⟩ => ?qy4) ?_
 case qy4 => go_simp; try rfl
 simp only [Act.put, List.setIfInBounds_toArray, List.set_cons_succ, List.set_cons_zero]
 refine tP 5 ?qv5 (fun w1 _ => ?qy5) ?_
 case qy5 => go_simp; try rfl
 simp only [Act.put, List.setIfInBounds_toArray, List.set_cons_succ, List.set_cons_zero]
 refine tH 1 ?qv1 hS (fun w1 ⟨d0, d1, d2, d3, d4, d5, d6⟩ => ?qy1) ?_
 case qy1 => go_simp; try rfl
 refine tH 9 ?qv9 hS (fun w1 ⟨d0, d1, d2, d3, d4, d5, d6⟩ => ?qy9) ?_
 case qy9 => go_simp; try rfl
 refine tH 12 ?qv12 hS (fun w1 ⟨d0, d1, d2, d3, d4, d5, d6⟩ => ?qy12) ?_
 case qy12 => go_simp; try rfl
 simp only [Act.put, List.setIfInBounds_toArray, List.set_cons_succ, List.set_cons_zero]
 clear hS
 refine oneH 2 (by rfl) (by kernel_rfl) (fun K hK => ?_)
 gi_wp2_with fail
 refine (callsIn_wide.2 (HN.out _ (below5 HB2.out HBD.out))).mono ?_
 rintro e w3 ⟨rfl, b3⟩
 have HB3 := Lib.hid (below5 HBD.out b3)
 clear b3 HN
 gi_wp2_with fail
 refine hK _ _ (fun _ => HST.out _ HB3.out) ?_
 clear hK K
 refine oneH 6 (by rfl) (by kernel_rfl) (fun K hK => ?_)
 gi_wp2_with fail
 refine (callsIn_wide.2 (HU.out _ (below5 HB2.out HB3.out))).mono ?_
 rintro e w4 ⟨rfl, b4⟩
 have HB4 := Lib.hid (below5 HB3.out b4)
 clear b4 HU
 gi_wp2_with fail
 refine hK _ _ (fun _ => HST.out _ HB4.out) ?_
 clear hK K
 refine oneH 10 (by rfl) (by kernel_rfl) (fun K hK => ?_)
 gi_wp2_with fail
 refine (callsIn_wide.2 (HY.out _ (below5 HB2.out HB4.out))).mono ?_
 rintro e w5 ⟨rfl, b5⟩
 have HB5 := Lib.hid (below5 HB4.out b5)
 clear b5 HY
 gi_wp2_with fail
 refine hK _ _ (fun _ => HST.out _ HB5.out) ?_
 clear hK K
 refine oneH 13 (by rfl) (by kernel_rfl) (fun K hK => ?_)
 gi_wp2_with fail
 refine (callsIn_wide.2 (HD.out _ (below5 HB2.out HB5.out))).mono ?_
 rintro e w6 ⟨rfl, b6⟩
 have HB6 := Lib.hid (below5 HB5.out b6)
 clear b6 HD
 gi_wp2_with fail
 refine hK _ _ (fun _ => HST.out _ HB6.out) ?_
 clear hK K
 refine oneH 14 (by rfl) (by kernel_rfl) (fun K hK => ?_)
 gi_wp2_with fail
 have HB7 : Hid (Below W2.heap.size W2 (w6.alloc (.cells #[S nt, S (Lib.decDigits ttl), .string ⟨#[73, 78]⟩, S tt, S dt] 9))) := HB6.out.alloc HB6.out.size _
 have hrd : Rd (.slice (some ⟨w6.heap.size, 0, none⟩) 5 5) [nt, Lib.decDigits ttl, [73, 78], tt, dt] (w6.alloc (.cells #[S nt, S (Lib.decDigits ttl), .string ⟨#[73, 78]⟩, S tt, S dt] 9)) := rd_lit [nt, Lib.decDigits ttl, [73, 78], tt, dt] w6 9 (by simp)
 have hjl : (Lib.join [nt, Lib.decDigits ttl, [73, 78], tt, dt] [32]).length <= 140737488355328 := by
  have h1 := Tx.join_len (l := [nt, Lib.decDigits ttl, [73, 78], tt, dt]) (sep := [32]) (m := 1000000000) (fun x hx => by
   have := HL1.out; have := HL2.out; have := HL3.out; have := HL4.out
   simp only [List.mem_cons, List.not_mem_nil, or_false] at hx
   rcases hx with rfl | rfl | rfl | rfl | rfl <;> first | omega | simp)
  exact Nat.le_trans h1 (by simp)
 have HJ : Hid (Calls Tryz.prog 29 #[.slice (some ⟨w6.heap.size, 0, none⟩) 5 5, S [32]] (w6.alloc (.cells #[S nt, S (Lib.decDigits ttl), .string ⟨#[73, 78]⟩, S tt, S dt] 9)) (Gives (S (Lib.join [nt, Lib.decDigits ttl, [73, 78], tt, dt] [32])) (w6.alloc (.cells #[S nt, S (Lib.decDigits ttl), .string ⟨#[73, 78]⟩, S tt, S dt] 9)))) :=
  sjoin_any w6.heap.size 0 5 [nt, Lib.decDigits ttl, [73, 78], tt, dt] [32] _ hrd (by simp) (by simp) hjl
 clear hrd hjl
 refine hK _ _ (fun _ => HST.out _ HB7.out) ?_
 clear hK K
 refine oneH 15 (by rfl) (by kernel_rfl) (fun K hK => ?_)
 gi_wp2_with fail
 refine (callsIn_wide.2 HJ.out).mono ?_
 rintro e w8 ⟨rfl, b8⟩
 have HB8 := Lib.hid (below5 HB7.out b8)
 clear b8 HJ
 gi_wp2_with fail
 refine hK _ _ (fun _ => HST.out _ HB8.out) ?_
 clear hK K
 refine oneH 16 (by rfl) (by kernel_rfl) (fun K hK => ?_)
 gi_wp2_with fail
 refine hK _ _ (fun h => by simp at h) ?_
 clear hK K
 refine doneH (by kernel_rfl) ?_
 gi_wp2_with fail
 go_ret
 exact ⟨rfl, below5 HB2.out HB8.out⟩
end Go.Proofs.YtgmbefolgppmdaaGreatDoor
end
