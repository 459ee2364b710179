/- rdata: the words of any data. -/
import Derived.Test.YtgmbefolgppmdaaGreatDoorKTwF
import Derived.Test.YtgmbefolgppmdaaGreatDoorKGdB
import Derived.Test.YtgmbefolgppmdaaGreatDoorKReg
namespace Go.Proofs.YtgmbefolgppmdaaGreatDoor
open Go.RowKit Go.Shelf
set_option maxRecDepth 100000
attribute [local go_sem] Oper.semAt_some
namespace Tw
def hex2 (c : List UInt8) : List UInt8 := Hx.hexd (Tx.val (c.take 2))
theorem hex2_len (c : List UInt8) : (hex2 c).length <= 1000 := by
 have h1 := Tx.val_le (l := c.take 2) (by rw [List.length_take]; omega)
 have := Hx.hexd_len (n := Tx.val (c.take 2)) 3 (by show _ < (65536 : Nat); omega)
 unfold hex2; omega
def addr6 (bs : List UInt8) : List UInt8 := Lib.join (Tx.grp bs 2 hex2 8) [58]
def base (r : Rc.PRec) : List (List UInt8) := (if r.type = 15 then r.nums.map Lib.decDigits else []) ++ r.names.map Nm.text ++ (if r.type = 15 then [] else r.nums.map Lib.decDigits) ++ r.texts.map quo
def words (r : Rc.PRec) : List (List UInt8) :=
 if r.type = 1 then base r ++ [Tx.addr r.raw] else if r.type = 28 then base r ++ [addr6 r.raw] else if (Ty.nameOf r.type).isSome then base r
 else base r ++ [[92, 35], Lib.decDigits r.raw.length] ++ (if 0 < r.raw.length then [Hx.hexB r.raw] else [])
end Tw
structure WoM (w : World) (ds : Array Value) (ts : List (List UInt8)) (W : World) : Prop where
 db : Blk w.heap.size ds 29 W
 sb : SbM w (w.heap.size + 2) (w.heap.size + 1) ts W
theorem WoM.step {w ds ts ts'} {A W : World} (h : WoM w ds ts A) (h1 : SbM w (w.heap.size + 2) (w.heap.size + 1) ts' W) (h2 : KeptR (w.heap.size + 2) (w.heap.size + 1) A W) : WoM w ds ts' W :=
 ⟨(h2 _ (by omega) (by omega)).trans h.db, h1⟩
def Tw.Wo (ws : List (List UInt8)) (w : World) (e : Ending) (w' : World) : Prop := ∃ g c, e = .returned (.slice (some ⟨g, 0, none⟩) ws.length c) /\ Rd (.slice (some ⟨g, 0, none⟩) ws.length c) ws w' /\ g < w'.heap.size /\ Below w.heap.size w w'
theorem wo_ret {w W : World} {o : Option Addr} {c n : Nat} {ws : List (List UInt8)} (hne : ws ≠ []) (hn : ws.length = n) (hr : Row (fun g => w.heap.size + 2 <= g) 9 1 (.slice o n c) n (ws.map S) W) (hb : Below w.heap.size w W) : Tw.Wo ws w (.returned (.slice o n c)) W := by
 subst hn
 have hrd := Row.rd hr
 obtain ⟨⟨_, ho⟩, _⟩ := hr
 rcases ho with ⟨e, h0⟩ | ⟨g, cap', cur, e, _, hg, _⟩
 ·exact absurd (List.length_eq_zero_iff.1 h0) hne
 ·simp only [Value.slice.injEq] at e
  obtain ⟨rfl, _, rfl⟩ := e
  exact ⟨g, c, rfl, hrd, (Array.getElem?_eq_some_iff.1 hg).1, hb⟩
theorem SbM.pushN {w B q ts} {W Wq w10 : World} (hB : w.heap.size <= q) (hq : q < B) (h : SbM w B q ts W) (xs : List (List UInt8)) (hba : Below W.heap.size W Wq) {v v10 : Value} (hbx : Box q 22 v Wq) (hrow : Row (fun g => B <= g) 9 1 v ts.length (ts.map S) Wq)
  (hrow10 : Row (fun g => B <= g) 9 1 v10 (ts.length + xs.length) ((ts ++ xs).map S) w10) (hgr10 : Wq.grownBy w10 v.ownBlock) :
  SbM w B q (ts ++ xs) (w10.setCell ⟨q, 0, none⟩ v10) /\ (∀ b, b < B -> b ≠ q -> (w10.setCell ⟨q, 0, none⟩ v10).heap[b]? = W.heap[b]?) := by
 have hown : ∀ g, v.ownBlock = some g -> B <= g := fun g hg => hrow.2 g hg
 have hsz := h.size
 have hbs := hba.size
 have hbx10 : Box q 22 v w10 := (hgr10.block _ hbx.lt (fun e => by have := hown _ e.symm; omega)).trans hbx
 have hblk : ∀ b, b < B -> b ≠ q -> (w10.setCell ⟨q, 0, none⟩ v10).heap[b]? = W.heap[b]? := fun b hb hne =>
  (Below.heap_setCell _ _ _ _ hne).trans ((hgr10.block b (by omega) (fun e => by have := hown b e.symm; omega)).trans (hba.block b (by omega)))
 obtain ⟨a10, c10, e10⟩ := hrow10.form
 subst e10
 refine ⟨⟨⟨a10, c10, ?_, ?_⟩, ?_, ?_⟩, hblk⟩
 ·rw [List.length_append]; exact hbx10.set _
 ·rw [List.length_append]; exact Row.setOther hrow10 (by omega) _
 ·exact Below.setCell (p := ⟨q, 0, none⟩) ((below5 h.below hba).grown hgr10 (below5 h.below hba).size (fun g hg => by have := hown g hg; omega)) hB _
 ·have := hgr10.size; simp [World.setCell]; omega
theorem Tw.base_len {r : Rc.PRec} (hf : DF r) : (Tw.base r).length <= 100 := by
 have h1 := hf.nums; have h2 := hf.names; have h3 := hf.texts
 unfold Tw.base; split <;> simp <;> omega
set_option maxHeartbeats 8000000 in
theorem words_any (vs : List Value) (r : Rc.PRec) (w : World) (h : DatRd vs r w) (hf : DF r) (hnum : ∀ n ∈ r.nums, n < 4294967296) (hnb : ∀ n ∈ r.names, NB n) (ht : Tab w) (hdb : Db w) (h4 : r.type = 1 -> r.raw.length = 4) (h16 : r.type = 28 -> r.raw.length = 16) (hne : Tw.words r ≠ []) :
  Calls Tryz.prog 70 #[.agg vs.toArray] w (Tw.Wo (Tw.words r) w) := by
 obtain ⟨vn, vm, vt, vr, rfl, hn, hm, htx, hrw⟩ := h
 obtain ⟨us, hul, husl, hus⟩ := hn
 obtain ⟨on, cn, rfl, hn1, hn2⟩ := husl.form
 rw [hul] at hn1
 obtain ⟨om, cm, hvm, hm1, hm2⟩ := hm.form
 rw [show (numC r.nums).length = r.nums.length by simp [numC]] at hvm hm1
 subst hvm
 obtain ⟨ot, ct, rfl, ht1, ht2⟩ := htx.form
 obtain ⟨orw, crw, hvr, hr1, hr2⟩ := hrw.form
 rw [List.length_map] at hvr hr1
 obtain ⟨rl, hrl⟩ : ∃ n, r.raw.length = n := ⟨_, rfl⟩
 rw [hrl] at hvr hr1
 subst hvr
 have HRL := Lib.hid hrl
 have hnn : (us.length : Int) <= 8 := by have := hf.names; omega
 have hnt : (r.texts.length : Int) <= 40 := by have := hf.texts; omega
 have hnr : (rl : Int) <= 1100 := by have := hf.raw; omega
 clear hrl
 have HF := Lib.hid hf
 have HNUM := Lib.hid hnum
 have HNB := Lib.hid hnb
 have HT := Lib.hid ht
 have HDB := Lib.hid hdb
 have H4 := Lib.hid h4
 have H16 := Lib.hid h16
 have HNE := Lib.hid hne
 have HUL := Lib.hid hul
 have HUS := Lib.hid (And.intro husl hus)
 have HMM := Lib.hid hm
 have HTX := Lib.hid htx
 have HRW := Lib.hid hrw
 obtain ⟨t, htt⟩ : ∃ t, r.type = t := ⟨_, rfl⟩
 have HTT := Lib.hid htt
 rw [htt]
 clear hf hnum hnb ht hdb h4 h16 hne hul husl hus hm htx hrw htt
 by_cases h15 : t = 15
 ·subst h15
  have h15 : r.type = 15 := HTT.out
  have H15 := Lib.hid h15
  clear h15
  refine (callsIn_wide (n := 0)).1 ?_
  refine callsIn_of_wp Tryz.func70 rfl trivial ?_ rfl
  simp only [Tryz.ntmps70, List.size_toArray, List.length_cons, List.length_nil, Nat.reduceAdd, Nat.reduceSub, Array.replicate_succ, Array.replicate_zero, List.push_toArray, List.append_toArray, List.nil_append, List.cons_append]
  gi_wp2_with fail
  obtain ⟨W2, hW2⟩ : ∃ W2, (w.alloc (.cells #[.int .i64 15, .slice on us.length cn, .slice om r.nums.length cm, .slice ot r.texts.length ct, .slice orw rl crw] 29)).alloc (.cells #[.slice none 0 0] 22) = W2 := ⟨_, rfl⟩
  rw [hW2]
  have hW0 : WoM w #[.int .i64 15, .slice on us.length cn, .slice om r.nums.length cm, .slice ot r.texts.length ct, .slice orw rl crw] [] W2 := by
   subst hW2
   have k1 := Box.new (w.alloc (.cells #[.int .i64 15, .slice on us.length cn, .slice om r.nums.length cm, .slice ot r.texts.length ct, .slice orw rl crw] 29)) 22 (.slice none 0 0)
   rw [World.size_alloc] at k1
   exact ⟨(Blk.new w _ _).alloc _, ⟨⟨none, 0, k1, Row.nil _ _ _ _⟩, ((Below.refl _ _).alloc (Nat.le_refl _) _).alloc (by simp) _, by simp⟩⟩
  have HW0 := Lib.hid hW0
  clear hW2 hW0
  refine (callsIn_wide.2 (nums1_any w (w.heap.size + 2) w.heap.size (w.heap.size + 1) (by omega) ⟨by omega, by omega⟩ (by omega) [] r.nums (.slice om r.nums.length cm) _ HW0.out.sb (HW0.out.db.cell 2) HMM.out HNUM.out (by have := HF.out.nums; omega) (by have h1 := HF.out.nums; have h2 := HF.out.names; simp; try omega) HT.out)).mono ?_
  rintro e w3 ⟨rfl, hs3, hk3⟩
  have HM1 := Lib.hid (HW0.out.step hs3 hk3)
  clear hs3 hk3
  have HM0 : Hid (WoM w #[.int .i64 15, .slice on us.length cn, .slice om r.nums.length cm, .slice ot r.texts.length ct, .slice orw rl crw] (r.nums.map Lib.decDigits) w3) := HM1.out
  clear HM1 HW0
  have c1 : w3.cell? ⟨w.heap.size, 1, none⟩ = some (.slice on us.length cn) := HM0.out.db.cell 1
  gi_wp2_with fail
  clear c1
  gi_loopw [18] (fun vi A => ∃ k : Nat, k <= us.length /\ vi = .int .i64 k /\ Hid (WoM w #[.int .i64 15, .slice on us.length cn, .slice om r.nums.length cm, .slice ot r.texts.length ct, .slice orw rl crw] (r.nums.map Lib.decDigits ++ (r.names.take k).map Nm.text) A)) (fun vi _ => us.length - (intOf vi).toNat)
  case atStart => exact ⟨0, Nat.zero_le _, rfl, by show WoM _ _ _ _; rw [List.take_zero, List.map_nil, List.append_nil]; exact HM0.out⟩
  case round =>
   clear HM0
   obtain ⟨k, hk, rfl, HW1⟩ := hrel
   by_cases hlt : k < us.length
   ·have hlk : (k : Int) < (us.length : Int) := by omega
    have hlt' : k < r.names.length := by have := HUL.out; omega
    obtain ⟨a, rfl, hc0⟩ : ∃ a, on = some a /\ w.cell? (a.add k) = some us[k] := by
     obtain ⟨o', c', e, _, _, _, h⟩ := HUS.out.1
     cases e
     exact h k hlt
    have hru := HUS.out.2 k hlt hlt'
    obtain ⟨u, hu⟩ : ∃ u, us[k] = u := ⟨_, rfl⟩
    rw [hu] at hc0 hru
    have HRU := Lib.hid hru
    have HNBK := Lib.hid (HNB.out _ (List.getElem_mem hlt'))
    obtain ⟨x, hx⟩ : ∃ x, Nm.text r.names[k] = x := ⟨_, rfl⟩
    have HCT : Hid (∀ W, Below w.heap.size w W -> Calls Tryz.prog 30 #[u] W (Gives (S x) W)) := fun W hb => by
     have := nText_any u r.names[k] W (HRU.out.below hb) HNBK.out
     rw [hx] at this; exact this
    clear hru hu
    have hcell := (HW1.out.sb.below.cell (cell_lt hc0)).trans hc0
    obtain ⟨ts1, hts1⟩ : ∃ z, r.nums.map Lib.decDigits ++ (r.names.take k).map Nm.text = z := ⟨_, rfl⟩
    obtain ⟨tl, htl⟩ : ∃ n, ts1.length = n := ⟨_, rfl⟩
    have hX : r.nums.map Lib.decDigits ++ (r.names.take (k + 1)).map Nm.text = ts1 ++ [x] := by rw [<- hts1, List.take_succ_eq_append_getElem (by first | exact hlt | exact hlt'), List.map_append, <- List.append_assoc, <- hx]; rfl
    have htl2 : tl <= 60000 := by have h1 := HF.out.nums; have h2 := HF.out.names; have h3 := HF.out.texts; rw [<- htl, <- hts1]; simp; omega
    rw [hts1] at HW1
    have HM1 := Lib.hid HW1.out.sb
    have HX := Lib.hid hX
    have HTLE := Lib.hid htl
    have HTL := Lib.hid htl2
    have HQ : Hid (w.heap.size <= w.heap.size + 1 /\ w.heap.size + 1 < w.heap.size + 2) := ⟨by omega, by omega⟩
    obtain ⟨ob, cb, hbx, hrow⟩ := HM1.out.bx
    rw [htl] at hbx hrow
    have HBX := Lib.hid hbx
    have HROW := Lib.hid hrow
    have HXX := Lib.hid hx
    clear hts1 htl hX htl2 hbx hrow hc0 hx
    gi_wp2_with fail
    refine drawnH [0, 2, 3] (fun w' => w'.cell? ⟨w.heap.size + 1, 0, none⟩ = some (.slice ob tl cb)) 6 rfl (by kernel_rfl) ?_
    intro w' hw'
    have hbd : Below wr.heap.size wr w' := by subst hw'; exact (Below.refl _ _).drew
    have hS : w'.cell? ⟨w.heap.size + 1, 0, none⟩ = some (.slice ob tl cb) := (HBX.out.below hbd).cell
    have HBD := Lib.hid hbd
    clear hw' hbd
    refine tP 1 ?qbv1 (fun w1 _ => ?qby1) ?_
    case qby1 => go_simp; try rfl
    simp only [Act.put, List.setIfInBounds_toArray, List.set_cons_succ, List.set_cons_zero]
    refine tH 0 ?qbv0 hS (fun w1 d1 => ?qby0) ?_
    case qby0 => go_simp; try rfl
    simp only [Act.put, List.setIfInBounds_toArray, List.set_cons_succ, List.set_cons_zero]
    clear hS
    have HC := Lib.hid (HCT.out _ (below5 HM1.out.below HBD.out))
    clear HCT
    refine oneH 2 (by rfl) (by kernel_rfl) (fun K hK => ?_)
    gi_wp2_with fail
    refine (callsIn_wide.2 HC.out).mono ?_
    rintro e w4 ⟨rfl, b4⟩
    have HB4 := Lib.hid (below5 HBD.out b4)
    clear b4 HC
    gi_wp2_with fail
    refine hK _ _ (fun _ => (HBX.out.below HB4.out).cell) ?_
    clear hK K
    refine oneH 3 (by rfl) (by kernel_rfl) (fun K hK => ?_)
    gi_wp2_with fail
    have HB5 : Hid (Below wr.heap.size wr (w4.alloc (.cells #[S x] 9))) := HB4.out.alloc HB4.out.size _
    refine hK _ _ (fun _ => (HBX.out.below HB5.out).cell) ?_
    clear hK K
    refine oneH 4 (by rfl) (by kernel_rfl) (fun K hK => ?_)
    have HR5 : Hid (Row (fun g => (w.heap.size + 2) <= g) 9 1 (.slice ob tl cb) tl (ts1.map fun x => [S x]).flatten (w4.alloc (.cells #[S x] 9))) := by show Row _ _ _ _ _ _ _; rw [strs_flat]; exact HROW.out.below HB5.out
    refine append_g (fun g => (w.heap.size + 2) <= g) 9 _ 1 16 Tryz.info_str rfl (by decide) rfl _ _ _ Tryz.underlying22 rfl _ tl (ts1.map fun x => [S x]) (by rfl) HR5.out _ [[S x]] (by rfl) (GRd.new [S x] rfl (by simp [Value.oneCell', S]) w4 9) (by have := HTL.out; simp; omega) (by omega) (by have := HM1.out.size; have := HB5.out.size; omega) ?_
    intro v10 w10 hrow10 hgr10
    obtain ⟨o10, c10, e10⟩ := hrow10.form
    subst e10
    have hlt2 : (w.heap.size + 1) < (w4.alloc (.cells #[S x] 9)).heap.size := by have := HM1.out.size; have := HB5.out.size; have := HQ.out; omega
    have hown : ∀ g, (Value.slice ob tl cb).ownBlock = some g -> (w.heap.size + 2) <= g := fun g hg => HROW.out.2 g hg
    have hbx10 : Box (w.heap.size + 1) 22 (.slice ob tl cb) w10 := (hgr10.block _ hlt2 (fun e => by have := hown _ e.symm; have := HQ.out; omega)).trans (HBX.out.below HB5.out)
    have y0 := hbx10.cell
    have y1 := hbx10.frozen
    have HR10 := Lib.hid hrow10
    have HG10 := Lib.hid hgr10
    refine hK _ _ (fun _ => y0) ?_
    clear hK K hrow10 hgr10 hbx10 hlt2 hown
    refine oneH 5 (by rfl) (by kernel_rfl) (fun K hK => ?_)
    gi_wp2_with fail
    refine hK _ _ (fun h => by simp at h) ?_
    clear hK K y0 y1
    refine doneH (by kernel_rfl) ?_
    gi_wp2_with fail
    have hR5' := HR5.out
    rw [strs_flat] at hR5'
    have hR10 := HR10.out
    rw [List.length_cons, List.length_nil, show (ts1.map (fun x => [S x]) ++ [[S x]]) = (ts1 ++ [x]).map (fun x => [S x]) by simp, strs_flat] at hR10
    have HK := HM1.out.push (q := (w.heap.size + 1)) (by have := HQ.out; omega) (by have := HQ.out; omega) x HB5.out (HBX.out.below HB5.out) (by rw [HTLE.out]; exact hR5') (by rw [HTLE.out]; exact hR10) HG10.out
    obtain ⟨p1', p2', p3'⟩ := HK
    refine ⟨⟨k + 1, by omega, by go_num, ?_⟩, by simp [intOf]; omega⟩
    show WoM _ _ _ _
    rw [HX.out]
    exact HW1.out.step p1' p3'
   ·obtain rfl : us.length = k := by omega
    have hlk : ¬ (us.length : Int) < (us.length : Int) := by omega
    have htk : r.names.take us.length = r.names := List.take_of_length_le (by first | exact Nat.le_refl _ | exact Nat.le_of_eq HUL.out.symm)
    rw [htk] at HW1
    clear htk
    have c0 : wr.cell? ⟨w.heap.size, 0, none⟩ = some (.int .i64 15) := HW1.out.db.cell 0
    have HM0 := Lib.hid HW1.out
    have c3 : wr.cell? ⟨w.heap.size, 3, none⟩ = some (.slice ot r.texts.length ct) := HW1.out.db.cell 3
    gi_wp2_with fail
    clear c0 c3 HW1
    gi_loopw [36] (fun vi A => ∃ k : Nat, k <= r.texts.length /\ vi = .int .i64 k /\ Hid (WoM w #[.int .i64 15, .slice on us.length cn, .slice om r.nums.length cm, .slice ot r.texts.length ct, .slice orw rl crw] ((r.nums.map Lib.decDigits ++ r.names.map Nm.text) ++ (r.texts.take k).map Tw.quo) A)) (fun vi _ => r.texts.length - (intOf vi).toNat)
    case atStart => exact ⟨0, Nat.zero_le _, rfl, by show WoM _ _ _ _; rw [List.take_zero, List.map_nil, List.append_nil]; exact HM0.out⟩
    case round =>
     clear HM0
     obtain ⟨k, hk, rfl, HW1⟩ := hrel
     by_cases hlt : k < r.texts.length
     ·have hlk : (k : Int) < (r.texts.length : Int) := by omega
      obtain ⟨a, rfl, hc0⟩ : ∃ a, ot = some a /\ w.cell? (a.add k) = some (S r.texts[k]) := by
       exact HTX.out.cells w (Below.refl _ _) k hlt
      obtain ⟨u, hu⟩ : ∃ u, r.texts[k] = u := ⟨_, rfl⟩
      have hul3 : u.length <= 300 := by rw [<- hu]; exact HF.out.text _ (List.getElem_mem hlt)
      obtain ⟨x, hx⟩ : ∃ x, Tw.quo r.texts[k] = x := ⟨_, rfl⟩
      have HCT : Hid (∀ W, Below w.heap.size w W -> Calls Tryz.prog 103 #[S u] W (Gives (S x) W)) := fun W hb => by
       have := quote_any u W (by omega)
       rw [<- hu, hx, hu] at this; exact this
      rw [hu] at hc0
      clear hu hul3
      have hcell := (HW1.out.sb.below.cell (cell_lt hc0)).trans hc0
      obtain ⟨ts1, hts1⟩ : ∃ z, (r.nums.map Lib.decDigits ++ r.names.map Nm.text) ++ (r.texts.take k).map Tw.quo = z := ⟨_, rfl⟩
      obtain ⟨tl, htl⟩ : ∃ n, ts1.length = n := ⟨_, rfl⟩
      have hX : (r.nums.map Lib.decDigits ++ r.names.map Nm.text) ++ (r.texts.take (k + 1)).map Tw.quo = ts1 ++ [x] := by rw [<- hts1, List.take_succ_eq_append_getElem (by first | exact hlt | exact hlt'), List.map_append, <- List.append_assoc, <- hx]; rfl
      have htl2 : tl <= 60000 := by have h1 := HF.out.nums; have h2 := HF.out.names; have h3 := HF.out.texts; rw [<- htl, <- hts1]; simp; omega
      rw [hts1] at HW1
      have HM1 := Lib.hid HW1.out.sb
      have HX := Lib.hid hX
      have HTLE := Lib.hid htl
      have HTL := Lib.hid htl2
      have HQ : Hid (w.heap.size <= w.heap.size + 1 /\ w.heap.size + 1 < w.heap.size + 2) := ⟨by omega, by omega⟩
      obtain ⟨ob, cb, hbx, hrow⟩ := HM1.out.bx
      rw [htl] at hbx hrow
      have HBX := Lib.hid hbx
      have HROW := Lib.hid hrow
      have HXX := Lib.hid hx
      clear hts1 htl hX htl2 hbx hrow hc0 hx
      gi_wp2_with fail
      refine drawnH [0, 2, 3] (fun w' => w'.cell? ⟨w.heap.size + 1, 0, none⟩ = some (.slice ob tl cb)) 6 rfl (by kernel_rfl) ?_
      intro w' hw'
      have hbd : Below wr.heap.size wr w' := by subst hw'; exact (Below.refl _ _).drew
      have hS : w'.cell? ⟨w.heap.size + 1, 0, none⟩ = some (.slice ob tl cb) := (HBX.out.below hbd).cell
      have HBD := Lib.hid hbd
      clear hw' hbd
      refine tP 1 ?qcv1 (fun w1 _ => ?qcy1) ?_
      case qcy1 => go_simp; try rfl
      simp only [Act.put, List.setIfInBounds_toArray, List.set_cons_succ, List.set_cons_zero]
      refine tH 0 ?qcv0 hS (fun w1 d1 => ?qcy0) ?_
      case qcy0 => go_simp; try rfl
      simp only [Act.put, List.setIfInBounds_toArray, List.set_cons_succ, List.set_cons_zero]
      clear hS
      have HC := Lib.hid (HCT.out _ (below5 HM1.out.below HBD.out))
      clear HCT
      refine oneH 2 (by rfl) (by kernel_rfl) (fun K hK => ?_)
      gi_wp2_with fail
      refine (callsIn_wide.2 HC.out).mono ?_
      rintro e w4 ⟨rfl, b4⟩
      have HB4 := Lib.hid (below5 HBD.out b4)
      clear b4 HC
      gi_wp2_with fail
      refine hK _ _ (fun _ => (HBX.out.below HB4.out).cell) ?_
      clear hK K
      refine oneH 3 (by rfl) (by kernel_rfl) (fun K hK => ?_)
      gi_wp2_with fail
      have HB5 : Hid (Below wr.heap.size wr (w4.alloc (.cells #[S x] 9))) := HB4.out.alloc HB4.out.size _
      refine hK _ _ (fun _ => (HBX.out.below HB5.out).cell) ?_
      clear hK K
      refine oneH 4 (by rfl) (by kernel_rfl) (fun K hK => ?_)
      have HR5 : Hid (Row (fun g => (w.heap.size + 2) <= g) 9 1 (.slice ob tl cb) tl (ts1.map fun x => [S x]).flatten (w4.alloc (.cells #[S x] 9))) := by show Row _ _ _ _ _ _ _; rw [strs_flat]; exact HROW.out.below HB5.out
      refine append_g (fun g => (w.heap.size + 2) <= g) 9 _ 1 16 Tryz.info_str rfl (by decide) rfl _ _ _ Tryz.underlying22 rfl _ tl (ts1.map fun x => [S x]) (by rfl) HR5.out _ [[S x]] (by rfl) (GRd.new [S x] rfl (by simp [Value.oneCell', S]) w4 9) (by have := HTL.out; simp; omega) (by omega) (by have := HM1.out.size; have := HB5.out.size; omega) ?_
      intro v10 w10 hrow10 hgr10
      obtain ⟨o10, c10, e10⟩ := hrow10.form
      subst e10
      have hlt2 : (w.heap.size + 1) < (w4.alloc (.cells #[S x] 9)).heap.size := by have := HM1.out.size; have := HB5.out.size; have := HQ.out; omega
      have hown : ∀ g, (Value.slice ob tl cb).ownBlock = some g -> (w.heap.size + 2) <= g := fun g hg => HROW.out.2 g hg
      have hbx10 : Box (w.heap.size + 1) 22 (.slice ob tl cb) w10 := (hgr10.block _ hlt2 (fun e => by have := hown _ e.symm; have := HQ.out; omega)).trans (HBX.out.below HB5.out)
      have y0 := hbx10.cell
      have y1 := hbx10.frozen
      have HR10 := Lib.hid hrow10
      have HG10 := Lib.hid hgr10
      refine hK _ _ (fun _ => y0) ?_
      clear hK K hrow10 hgr10 hbx10 hlt2 hown
      refine oneH 5 (by rfl) (by kernel_rfl) (fun K hK => ?_)
      gi_wp2_with fail
      refine hK _ _ (fun h => by simp at h) ?_
      clear hK K y0 y1
      refine doneH (by kernel_rfl) ?_
      gi_wp2_with fail
      have hR5' := HR5.out
      rw [strs_flat] at hR5'
      have hR10 := HR10.out
      rw [List.length_cons, List.length_nil, show (ts1.map (fun x => [S x]) ++ [[S x]]) = (ts1 ++ [x]).map (fun x => [S x]) by simp, strs_flat] at hR10
      have HK := HM1.out.push (q := (w.heap.size + 1)) (by have := HQ.out; omega) (by have := HQ.out; omega) x HB5.out (HBX.out.below HB5.out) (by rw [HTLE.out]; exact hR5') (by rw [HTLE.out]; exact hR10) HG10.out
      obtain ⟨p1', p2', p3'⟩ := HK
      refine ⟨⟨k + 1, by omega, by go_num, ?_⟩, by simp [intOf]; omega⟩
      show WoM _ _ _ _
      rw [HX.out]
      exact HW1.out.step p1' p3'
     ·obtain rfl : r.texts.length = k := by omega
      have hlk : ¬ (r.texts.length : Int) < (r.texts.length : Int) := by omega
      have htk : r.texts.take r.texts.length = r.texts := List.take_of_length_le (by first | exact Nat.le_refl _ | exact Nat.le_of_eq HUL.out.symm)
      rw [htk] at HW1
      clear htk
      have hbase : (r.nums.map Lib.decDigits ++ r.names.map Nm.text) ++ r.texts.map Tw.quo = Tw.base r := by simp [Tw.base, HTT.out]
      rw [hbase] at HW1
      clear hbase
      have c0 : wr.cell? ⟨w.heap.size, 0, none⟩ = some (.int .i64 15) := HW1.out.db.cell 0
      gi_wp2_with fail
      refine (callsIn_wide.2 (rknown_any 15 _)).mono ?_
      rintro e w5 ⟨rfl, b5⟩
      rw [show (Ty.nameOf 15).isSome = true from by decide]
      obtain ⟨ob, cb, hbx, hrow⟩ := (HW1.out.sb.on b5).bx
      obtain ⟨n, hn⟩ : ∃ n, (Tw.base r).length = n := ⟨_, rfl⟩
      rw [hn] at hbx hrow
      have HN := Lib.hid hn
      have HROW := Lib.hid hrow
      have HB := Lib.hid (HW1.out.sb.on b5).below
      have c1 := hbx.cell
      have hw : Tw.words r = Tw.base r := by unfold Tw.words; rw [H15.out]; rfl
      have HNE2 := HNE.out
      rw [hw] at HNE2
      have HNE3 := Lib.hid HNE2
      have HWW := Lib.hid hw
      clear hn hbx hrow b5 HNE2 hw
      gi_wp2_with fail
      go_ret
      rw [HWW.out]
      exact wo_ret HNE3.out HN.out HROW.out HB.out
 ·have f15 : (t == 15) = false := by simpa using h15
  have n15 : (t != 15) = true := by simpa using h15
  refine (callsIn_wide (n := 0)).1 ?_
  refine callsIn_of_wp Tryz.func70 rfl trivial ?_ rfl
  simp only [Tryz.ntmps70, List.size_toArray, List.length_cons, List.length_nil, Nat.reduceAdd, Nat.reduceSub, Array.replicate_succ, Array.replicate_zero, List.push_toArray, List.append_toArray, List.nil_append, List.cons_append]
  gi_wp2_with fail
  obtain ⟨W2, hW2⟩ : ∃ W2, (w.alloc (.cells #[.int .i64 t, .slice on us.length cn, .slice om r.nums.length cm, .slice ot r.texts.length ct, .slice orw rl crw] 29)).alloc (.cells #[.slice none 0 0] 22) = W2 := ⟨_, rfl⟩
  rw [hW2]
  have hM0 : WoM w #[.int .i64 t, .slice on us.length cn, .slice om r.nums.length cm, .slice ot r.texts.length ct, .slice orw rl crw] [] W2 := by
   subst hW2
   have k1 := Box.new (w.alloc (.cells #[.int .i64 t, .slice on us.length cn, .slice om r.nums.length cm, .slice ot r.texts.length ct, .slice orw rl crw] 29)) 22 (.slice none 0 0)
   rw [World.size_alloc] at k1
   exact ⟨(Blk.new w _ _).alloc _, ⟨⟨none, 0, k1, Row.nil _ _ _ _⟩, ((Below.refl _ _).alloc (Nat.le_refl _) _).alloc (by simp) _, by simp⟩⟩
  have HM0 := Lib.hid hM0
  clear hW2 hM0
  gi_loopw [18] (fun vi A => ∃ k : Nat, k <= us.length /\ vi = .int .i64 k /\ Hid (WoM w #[.int .i64 t, .slice on us.length cn, .slice om r.nums.length cm, .slice ot r.texts.length ct, .slice orw rl crw] (([] : List (List UInt8)) ++ (r.names.take k).map Nm.text) A)) (fun vi _ => us.length - (intOf vi).toNat)
  case atStart => exact ⟨0, Nat.zero_le _, rfl, by show WoM _ _ _ _; rw [List.take_zero, List.map_nil, List.append_nil]; exact HM0.out⟩
  case round =>
   clear HM0
   obtain ⟨k, hk, rfl, HW1⟩ := hrel
   by_cases hlt : k < us.length
   ·have hlk : (k : Int) < (us.length : Int) := by omega
    have hlt' : k < r.names.length := by have := HUL.out; omega
    obtain ⟨a, rfl, hc0⟩ : ∃ a, on = some a /\ w.cell? (a.add k) = some us[k] := by
     obtain ⟨o', c', e, _, _, _, h⟩ := HUS.out.1
     cases e
     exact h k hlt
    have hru := HUS.out.2 k hlt hlt'
    obtain ⟨u, hu⟩ : ∃ u, us[k] = u := ⟨_, rfl⟩
    rw [hu] at hc0 hru
    have HRU := Lib.hid hru
    have HNBK := Lib.hid (HNB.out _ (List.getElem_mem hlt'))
    obtain ⟨x, hx⟩ : ∃ x, Nm.text r.names[k] = x := ⟨_, rfl⟩
    have HCT : Hid (∀ W, Below w.heap.size w W -> Calls Tryz.prog 30 #[u] W (Gives (S x) W)) := fun W hb => by
     have := nText_any u r.names[k] W (HRU.out.below hb) HNBK.out
     rw [hx] at this; exact this
    clear hru hu
    have hcell := (HW1.out.sb.below.cell (cell_lt hc0)).trans hc0
    obtain ⟨ts1, hts1⟩ : ∃ z, ([] : List (List UInt8)) ++ (r.names.take k).map Nm.text = z := ⟨_, rfl⟩
    obtain ⟨tl, htl⟩ : ∃ n, ts1.length = n := ⟨_, rfl⟩
    have hX : ([] : List (List UInt8)) ++ (r.names.take (k + 1)).map Nm.text = ts1 ++ [x] := by rw [<- hts1, List.take_succ_eq_append_getElem (by first | exact hlt | exact hlt'), List.map_append, <- List.append_assoc, <- hx]; rfl
    have htl2 : tl <= 60000 := by have h1 := HF.out.nums; have h2 := HF.out.names; have h3 := HF.out.texts; rw [<- htl, <- hts1]; simp; omega
    rw [hts1] at HW1
    have HM1 := Lib.hid HW1.out.sb
    have HX := Lib.hid hX
    have HTLE := Lib.hid htl
    have HTL := Lib.hid htl2
    have HQ : Hid (w.heap.size <= w.heap.size + 1 /\ w.heap.size + 1 < w.heap.size + 2) := ⟨by omega, by omega⟩
    obtain ⟨ob, cb, hbx, hrow⟩ := HM1.out.bx
    rw [htl] at hbx hrow
    have HBX := Lib.hid hbx
    have HROW := Lib.hid hrow
    have HXX := Lib.hid hx
    clear hts1 htl hX htl2 hbx hrow hc0 hx
    gi_wp2_with fail
    refine drawnH [0, 2, 3] (fun w' => w'.cell? ⟨w.heap.size + 1, 0, none⟩ = some (.slice ob tl cb)) 6 rfl (by kernel_rfl) ?_
    intro w' hw'
    have hbd : Below wr.heap.size wr w' := by subst hw'; exact (Below.refl _ _).drew
    have hS : w'.cell? ⟨w.heap.size + 1, 0, none⟩ = some (.slice ob tl cb) := (HBX.out.below hbd).cell
    have HBD := Lib.hid hbd
    clear hw' hbd
    refine tP 1 ?qdv1 (fun w1 _ => ?qdy1) ?_
    case qdy1 => go_simp; try rfl
    simp only [Act.put, List.setIfInBounds_toArray, List.set_cons_succ, List.set_cons_zero]
    refine tH 0 ?qdv0 hS (fun w1 d1 => ?qdy0) ?_
    case qdy0 => go_simp; try rfl
    simp only [Act.put, List.setIfInBounds_toArray, List.set_cons_succ, List.set_cons_zero]
    clear hS
    have HC := Lib.hid (HCT.out _ (below5 HM1.out.below HBD.out))
    clear HCT
    refine oneH 2 (by rfl) (by kernel_rfl) (fun K hK => ?_)
    gi_wp2_with fail
    refine (callsIn_wide.2 HC.out).mono ?_
    rintro e w4 ⟨rfl, b4⟩
    have HB4 := Lib.hid (below5 HBD.out b4)
    clear b4 HC
    gi_wp2_with fail
    refine hK _ _ (fun _ => (HBX.out.below HB4.out).cell) ?_
    clear hK K
    refine oneH 3 (by rfl) (by kernel_rfl) (fun K hK => ?_)
    gi_wp2_with fail
    have HB5 : Hid (Below wr.heap.size wr (w4.alloc (.cells #[S x] 9))) := HB4.out.alloc HB4.out.size _
    refine hK _ _ (fun _ => (HBX.out.below HB5.out).cell) ?_
    clear hK K
    refine oneH 4 (by rfl) (by kernel_rfl) (fun K hK => ?_)
    have HR5 : Hid (Row (fun g => (w.heap.size + 2) <= g) 9 1 (.slice ob tl cb) tl (ts1.map fun x => [S x]).flatten (w4.alloc (.cells #[S x] 9))) := by show Row _ _ _ _ _ _ _; rw [strs_flat]; exact HROW.out.below HB5.out
    refine append_g (fun g => (w.heap.size + 2) <= g) 9 _ 1 16 Tryz.info_str rfl (by decide) rfl _ _ _ Tryz.underlying22 rfl _ tl (ts1.map fun x => [S x]) (by rfl) HR5.out _ [[S x]] (by rfl) (GRd.new [S x] rfl (by simp [Value.oneCell', S]) w4 9) (by have := HTL.out; simp; omega) (by omega) (by have := HM1.out.size; have := HB5.out.size; omega) ?_
    intro v10 w10 hrow10 hgr10
    obtain ⟨o10, c10, e10⟩ := hrow10.form
    subst e10
    have hlt2 : (w.heap.size + 1) < (w4.alloc (.cells #[S x] 9)).heap.size := by have := HM1.out.size; have := HB5.out.size; have := HQ.out; omega
    have hown : ∀ g, (Value.slice ob tl cb).ownBlock = some g -> (w.heap.size + 2) <= g := fun g hg => HROW.out.2 g hg
    have hbx10 : Box (w.heap.size + 1) 22 (.slice ob tl cb) w10 := (hgr10.block _ hlt2 (fun e => by have := hown _ e.symm; have := HQ.out; omega)).trans (HBX.out.below HB5.out)
    have y0 := hbx10.cell
    have y1 := hbx10.frozen
    have HR10 := Lib.hid hrow10
    have HG10 := Lib.hid hgr10
    refine hK _ _ (fun _ => y0) ?_
    clear hK K hrow10 hgr10 hbx10 hlt2 hown
    refine oneH 5 (by rfl) (by kernel_rfl) (fun K hK => ?_)
    gi_wp2_with fail
    refine hK _ _ (fun h => by simp at h) ?_
    clear hK K y0 y1
    refine doneH (by kernel_rfl) ?_
    gi_wp2_with fail
    have hR5' := HR5.out
    rw [strs_flat] at hR5'
    have hR10 := HR10.out
    rw [List.length_cons, List.length_nil, show (ts1.map (fun x => [S x]) ++ [[S x]]) = (ts1 ++ [x]).map (fun x => [S x]) by simp, strs_flat] at hR10
    have HK := HM1.out.push (q := (w.heap.size + 1)) (by have := HQ.out; omega) (by have := HQ.out; omega) x HB5.out (HBX.out.below HB5.out) (by rw [HTLE.out]; exact hR5') (by rw [HTLE.out]; exact hR10) HG10.out
    obtain ⟨p1', p2', p3'⟩ := HK
    refine ⟨⟨k + 1, by omega, by go_num, ?_⟩, by simp [intOf]; omega⟩
    show WoM _ _ _ _
    rw [HX.out]
    exact HW1.out.step p1' p3'
   ·obtain rfl : us.length = k := by omega
    have hlk : ¬ (us.length : Int) < (us.length : Int) := by omega
    have htk : r.names.take us.length = r.names := List.take_of_length_le (by first | exact Nat.le_refl _ | exact Nat.le_of_eq HUL.out.symm)
    rw [htk] at HW1
    clear htk
    have c0 : wr.cell? ⟨w.heap.size, 0, none⟩ = some (.int .i64 t) := HW1.out.db.cell 0
    gi_wp2_with fail
    clear c0
    refine (callsIn_wide.2 (nums1_any w (w.heap.size + 2) w.heap.size (w.heap.size + 1) (by omega) ⟨by omega, by omega⟩ (by omega) (([] : List (List UInt8)) ++ r.names.map Nm.text) r.nums (.slice om r.nums.length cm) _ HW1.out.sb (HW1.out.db.cell 2) HMM.out HNUM.out (by have := HF.out.nums; omega) (by have h1 := HF.out.nums; have h2 := HF.out.names; simp; try omega) HT.out)).mono ?_
    rintro e w3 ⟨rfl, hs3, hk3⟩
    have HM1 := Lib.hid (HW1.out.step hs3 hk3)
    clear hs3 hk3
    have HM0 := Lib.hid HM1.out
    clear HM1 HW1
    have c3 : w3.cell? ⟨w.heap.size, 3, none⟩ = some (.slice ot r.texts.length ct) := HM0.out.db.cell 3
    gi_wp2_with fail
    clear c3
    gi_loopw [36] (fun vi A => ∃ k : Nat, k <= r.texts.length /\ vi = .int .i64 k /\ Hid (WoM w #[.int .i64 t, .slice on us.length cn, .slice om r.nums.length cm, .slice ot r.texts.length ct, .slice orw rl crw] ((([] : List (List UInt8)) ++ r.names.map Nm.text ++ r.nums.map Lib.decDigits) ++ (r.texts.take k).map Tw.quo) A)) (fun vi _ => r.texts.length - (intOf vi).toNat)
    case atStart => exact ⟨0, Nat.zero_le _, rfl, by show WoM _ _ _ _; rw [List.take_zero, List.map_nil, List.append_nil]; exact HM0.out⟩
    case round =>
     clear HM0
     obtain ⟨k, hk, rfl, HW1⟩ := hrel
     by_cases hlt : k < r.texts.length
     ·have hlk : (k : Int) < (r.texts.length : Int) := by omega
      obtain ⟨a, rfl, hc0⟩ : ∃ a, ot = some a /\ w.cell? (a.add k) = some (S r.texts[k]) := by
       exact HTX.out.cells w (Below.refl _ _) k hlt
      obtain ⟨u, hu⟩ : ∃ u, r.texts[k] = u := ⟨_, rfl⟩
      have hul3 : u.length <= 300 := by rw [<- hu]; exact HF.out.text _ (List.getElem_mem hlt)
      obtain ⟨x, hx⟩ : ∃ x, Tw.quo r.texts[k] = x := ⟨_, rfl⟩
      have HCT : Hid (∀ W, Below w.heap.size w W -> Calls Tryz.prog 103 #[S u] W (Gives (S x) W)) := fun W hb => by
       have := quote_any u W (by omega)
       rw [<- hu, hx, hu] at this; exact this
      rw [hu] at hc0
      clear hu hul3
      have hcell := (HW1.out.sb.below.cell (cell_lt hc0)).trans hc0
      obtain ⟨ts1, hts1⟩ : ∃ z, (([] : List (List UInt8)) ++ r.names.map Nm.text ++ r.nums.map Lib.decDigits) ++ (r.texts.take k).map Tw.quo = z := ⟨_, rfl⟩
      obtain ⟨tl, htl⟩ : ∃ n, ts1.length = n := ⟨_, rfl⟩
      have hX : (([] : List (List UInt8)) ++ r.names.map Nm.text ++ r.nums.map Lib.decDigits) ++ (r.texts.take (k + 1)).map Tw.quo = ts1 ++ [x] := by rw [<- hts1, List.take_succ_eq_append_getElem (by first | exact hlt | exact hlt'), List.map_append, <- List.append_assoc, <- hx]; rfl
      have htl2 : tl <= 60000 := by have h1 := HF.out.nums; have h2 := HF.out.names; have h3 := HF.out.texts; rw [<- htl, <- hts1]; simp; omega
      rw [hts1] at HW1
      have HM1 := Lib.hid HW1.out.sb
      have HX := Lib.hid hX
      have HTLE := Lib.hid htl
      have HTL := Lib.hid htl2
      have HQ : Hid (w.heap.size <= w.heap.size + 1 /\ w.heap.size + 1 < w.heap.size + 2) := ⟨by omega, by omega⟩
      obtain ⟨ob, cb, hbx, hrow⟩ := HM1.out.bx
      rw [htl] at hbx hrow
      have HBX := Lib.hid hbx
      have HROW := Lib.hid hrow
      have HXX := Lib.hid hx
      clear hts1 htl hX htl2 hbx hrow hc0 hx
      gi_wp2_with fail
      refine drawnH [0, 2, 3] (fun w' => w'.cell? ⟨w.heap.size + 1, 0, none⟩ = some (.slice ob tl cb)) 6 rfl (by kernel_rfl) ?_
      intro w' hw'
      have hbd : Below wr.heap.size wr w' := by subst hw'; exact (Below.refl _ _).drew
      have hS : w'.cell? ⟨w.heap.size + 1, 0, none⟩ = some (.slice ob tl cb) := (HBX.out.below hbd).cell
      have HBD := Lib.hid hbd
      clear hw' hbd
      refine tP 1 ?qev1 (fun w1 _ => ?qey1) ?_
      case qey1 => go_simp; try rfl
      simp only [Act.put, List.setIfInBounds_toArray, List.set_cons_succ, List.set_cons_zero]
      refine tH 0 ?qev0 hS (fun w1 d1 => ?qey0) ?_
      case qey0 => go_simp; try rfl
      simp only [Act.put, List.setIfInBounds_toArray, List.set_cons_succ, List.set_cons_zero]
      clear hS
      have HC := Lib.hid (HCT.out _ (below5 HM1.out.below HBD.out))
      clear HCT
      refine oneH 2 (by rfl) (by kernel_rfl) (fun K hK => ?_)
      gi_wp2_with fail
      refine (callsIn_wide.2 HC.out).mono ?_
      rintro e w4 ⟨rfl, b4⟩
      have HB4 := Lib.hid (below5 HBD.out b4)
      clear b4 HC
      gi_wp2_with fail
      refine hK _ _ (fun _ => (HBX.out.below HB4.out).cell) ?_
      clear hK K
      refine oneH 3 (by rfl) (by kernel_rfl) (fun K hK => ?_)
      gi_wp2_with fail
      have HB5 : Hid (Below wr.heap.size wr (w4.alloc (.cells #[S x] 9))) := HB4.out.alloc HB4.out.size _
      refine hK _ _ (fun _ => (HBX.out.below HB5.out).cell) ?_
      clear hK K
      refine oneH 4 (by rfl) (by kernel_rfl) (fun K hK => ?_)
      have HR5 : Hid (Row (fun g => (w.heap.size + 2) <= g) 9 1 (.slice ob tl cb) tl (ts1.map fun x => [S x]).flatten (w4.alloc (.cells #[S x] 9))) := by show Row _ _ _ _ _ _ _; rw [strs_flat]; exact HROW.out.below HB5.out
      refine append_g (fun g => (w.heap.size + 2) <= g) 9 _ 1 16 Tryz.info_str rfl (by decide) rfl _ _ _ Tryz.underlying22 rfl _ tl (ts1.map fun x => [S x]) (by rfl) HR5.out _ [[S x]] (by rfl) (GRd.new [S x] rfl (by simp [Value.oneCell', S]) w4 9) (by have := HTL.out; simp; omega) (by omega) (by have := HM1.out.size; have := HB5.out.size; omega) ?_
      intro v10 w10 hrow10 hgr10
      obtain ⟨o10, c10, e10⟩ := hrow10.form
      subst e10
      have hlt2 : (w.heap.size + 1) < (w4.alloc (.cells #[S x] 9)).heap.size := by have := HM1.out.size; have := HB5.out.size; have := HQ.out; omega
      have hown : ∀ g, (Value.slice ob tl cb).ownBlock = some g -> (w.heap.size + 2) <= g := fun g hg => HROW.out.2 g hg
      have hbx10 : Box (w.heap.size + 1) 22 (.slice ob tl cb) w10 := (hgr10.block _ hlt2 (fun e => by have := hown _ e.symm; have := HQ.out; omega)).trans (HBX.out.below HB5.out)
      have y0 := hbx10.cell
      have y1 := hbx10.frozen
      have HR10 := Lib.hid hrow10
      have HG10 := Lib.hid hgr10
      refine hK _ _ (fun _ => y0) ?_
      clear hK K hrow10 hgr10 hbx10 hlt2 hown
      refine oneH 5 (by rfl) (by kernel_rfl) (fun K hK => ?_)
      gi_wp2_with fail
      refine hK _ _ (fun h => by simp at h) ?_
      clear hK K y0 y1
      refine doneH (by kernel_rfl) ?_
      gi_wp2_with fail
      have hR5' := HR5.out
      rw [strs_flat] at hR5'
      have hR10 := HR10.out
      rw [List.length_cons, List.length_nil, show (ts1.map (fun x => [S x]) ++ [[S x]]) = (ts1 ++ [x]).map (fun x => [S x]) by simp, strs_flat] at hR10
      have HK := HM1.out.push (q := (w.heap.size + 1)) (by have := HQ.out; omega) (by have := HQ.out; omega) x HB5.out (HBX.out.below HB5.out) (by rw [HTLE.out]; exact hR5') (by rw [HTLE.out]; exact hR10) HG10.out
      obtain ⟨p1', p2', p3'⟩ := HK
      refine ⟨⟨k + 1, by omega, by go_num, ?_⟩, by simp [intOf]; omega⟩
      show WoM _ _ _ _
      rw [HX.out]
      exact HW1.out.step p1' p3'
     ·obtain rfl : r.texts.length = k := by omega
      have hlk : ¬ (r.texts.length : Int) < (r.texts.length : Int) := by omega
      have htk : r.texts.take r.texts.length = r.texts := List.take_of_length_le (by first | exact Nat.le_refl _ | exact Nat.le_of_eq HUL.out.symm)
      rw [htk] at HW1
      clear htk
      have hbase : (([] : List (List UInt8)) ++ r.names.map Nm.text ++ r.nums.map Lib.decDigits) ++ r.texts.map Tw.quo = Tw.base r := by simp [Tw.base, HTT.out, h15]
      rw [hbase] at HW1
      clear hbase
      have c0 : wr.cell? ⟨w.heap.size, 0, none⟩ = some (.int .i64 t) := HW1.out.db.cell 0
      by_cases h1 : t = 1
      ·subst h1
       obtain rfl : rl = 4 := by rw [<- HRL.out]; exact H4.out HTT.out
       have hraw := HRL.out
       obtain ⟨ra, rfl⟩ : ∃ a, orw = some a := by
        obtain ⟨o', c', e, _, _, _, h⟩ := HRW.out
        simp only [Value.slice.injEq] at e
        obtain ⟨rfl, _, _⟩ := e
        obtain ⟨a, ha, _⟩ := h 0 (by rw [List.length_map, hraw]; decide)
        exact ⟨a, ha⟩
       have hw : Tw.words r = Tw.base r ++ [(Tx.addr r.raw)] := by unfold Tw.words; rw [HTT.out, if_pos rfl]
       have HWW := Lib.hid hw
       obtain ⟨ts1, hts⟩ : ∃ l, Tw.base r = l := ⟨_, rfl⟩
       rw [hts] at HW1
       have HTS := Lib.hid hts
       obtain ⟨tl, htl⟩ : ∃ n, ts1.length = n := ⟨_, rfl⟩
       have htl2 : tl <= 60000 := by have h1 := Tw.base_len HF.out; rw [<- htl, <- hts]; omega
       obtain ⟨ob, cb, hbx, hrow⟩ := HW1.out.sb.bx
       rw [htl] at hbx hrow
       have HTLE := Lib.hid htl
       have HTL := Lib.hid htl2
       have HROW := Lib.hid hrow
       have HBX := Lib.hid hbx
       obtain ⟨x, hx⟩ : ∃ x, (Tx.addr r.raw) = x := ⟨_, rfl⟩
       have HXX := Lib.hid hx
       clear hraw hw hts htl htl2 hbx hrow hx
       gi_wp2_with fail
       have HST : Hid (∀ W', Below wr.heap.size wr W' -> W'.cell? ⟨w.heap.size + 1, 0, none⟩ = some (.slice ob tl cb) /\ W'.cell? ⟨w.heap.size, 0, none⟩ = some (.int .i64 1) /\ W'.cell? ⟨w.heap.size, 1, none⟩ = some (.slice on us.length cn) /\ W'.cell? ⟨w.heap.size, 2, none⟩ = some (.slice om r.nums.length cm) /\ W'.cell? ⟨w.heap.size, 3, none⟩ = some (.slice ot r.texts.length ct) /\ W'.cell? ⟨w.heap.size, 4, none⟩ = some (.slice (some ra) 4 crw)) := fun W' hb =>
        ⟨(HBX.out.below hb).cell, (HW1.out.db.below hb).cell 0, (HW1.out.db.below hb).cell 1, (HW1.out.db.below hb).cell 2, (HW1.out.db.below hb).cell 3, (HW1.out.db.below hb).cell 4⟩
       refine drawnH [0, 1, 2, 3, 4] (fun W' => W'.cell? ⟨w.heap.size + 1, 0, none⟩ = some (.slice ob tl cb) /\ W'.cell? ⟨w.heap.size, 0, none⟩ = some (.int .i64 1) /\ W'.cell? ⟨w.heap.size, 1, none⟩ = some (.slice on us.length cn) /\ W'.cell? ⟨w.heap.size, 2, none⟩ = some (.slice om r.nums.length cm) /\ W'.cell? ⟨w.heap.size, 3, none⟩ = some (.slice ot r.texts.length ct) /\ W'.cell? ⟨w.heap.size, 4, none⟩ = some (.slice (some ra) 4 crw)) 6 rfl (by kernel_rfl) ?_
       intro w' hw'
       have hbd : Below wr.heap.size wr w' := by subst hw'; exact (Below.refl _ _).drew
       have hS := HST.out _ hbd
       have HBD := Lib.hid hbd
       clear hw' hbd
       refine tH 0 ?qxv0 hS (fun w1 ⟨d1, d2, d3, d4, d5, d6⟩ => ?qxy0) ?_
       case qxy0 => go_simp; try rfl
       refine tH 1 ?qxv1 hS (fun w1 ⟨d1, d2, d3, d4, d5, d6⟩ => ?qxy1) ?_
       case qxy1 => go_simp; try rfl
       simp only [Act.put, List.setIfInBounds_toArray, List.set_cons_succ, List.set_cons_zero]
       clear hS
       have HG : Hid (Calls Tryz.prog 104 #[.agg #[.int .i64 1, .slice on us.length cn, .slice om r.nums.length cm, .slice ot r.texts.length ct, .slice (some ra) (4 * 1) crw], .int .i64 ((1 : Nat) : Int), .int .i64 ((10 : Nat) : Int), S [46]] w' (Gives (S x) w')) := by
        have hG := groups_any 1 on om ot us.length cn r.nums.length cm r.texts.length ct ra 4 1 crw 10 r.raw [46] w' (by decide) (by decide) (by decide) HRL.out (by decide) (Sl.below HRW.out (below5 HW1.out.sb.below HBD.out)) Tx.dec1 Tx.dec1_len (fun c hc W hb => by
         rw [Tx.dec1_of hc]
         exact fmtU_any _ (by have := Tx.val_le (l := c) (by omega); omega) W (HT.out.below (below5 (below5 HW1.out.sb.below HBD.out) hb)))
        rw [<- HXX.out]; exact hG
       refine oneH 2 (by rfl) (by kernel_rfl) (fun K hK => ?_)
       gi_wp2_with fail
       refine (callsIn_wide.2 HG.out).mono ?_
       rintro e w4 ⟨rfl, b4⟩
       have HB4 := Lib.hid (below5 HBD.out b4)
       clear b4 HG
       gi_wp2_with fail
       refine hK _ _ (fun _ => HST.out _ HB4.out) ?_
       clear hK K
       refine oneH 3 (by rfl) (by kernel_rfl) (fun K hK => ?_)
       gi_wp2_with fail
       have HB5 : Hid (Below wr.heap.size wr (w4.alloc (.cells #[S x] 9))) := HB4.out.alloc HB4.out.size _
       refine hK _ _ (fun _ => HST.out _ HB5.out) ?_
       clear hK K
       refine oneH 4 (by rfl) (by kernel_rfl) (fun K hK => ?_)
       have HR5 : Hid (Row (fun g => w.heap.size + 2 <= g) 9 1 (.slice ob tl cb) tl (ts1.map fun x => [S x]).flatten (w4.alloc (.cells #[S x] 9))) := by show Row _ _ _ _ _ _ _; rw [strs_flat]; exact HROW.out.below HB5.out
       refine append_g (fun g => w.heap.size + 2 <= g) 9 _ 1 16 Tryz.info_str rfl (by decide) rfl _ _ _ Tryz.underlying22 rfl _ tl (ts1.map fun x => [S x]) (by rfl) HR5.out _ [[S x]] (by rfl) (GRd.new [S x] rfl (by simp [Value.oneCell', S]) w4 9) (by have := HTL.out; simp; omega) (by omega) (by have := HW1.out.sb.size; have := HB5.out.size; omega) ?_
       intro v10 w10 hrow10 hgr10
       obtain ⟨o10, c10, e10⟩ := hrow10.form
       subst e10
       have hb10 : Below w.heap.size w w10 := (below5 HW1.out.sb.below HB5.out).grown hgr10 (below5 HW1.out.sb.below HB5.out).size (fun g hg => by have := HROW.out.2 g hg; omega)
       have HR10 := Lib.hid hrow10
       have HB10 := Lib.hid hb10
       refine hK _ _ (fun _ => ?ss1) ?_
       case ss1 =>
        have hsz := HW1.out.sb.size
        have hk5 : ∀ b, b < w.heap.size + 2 -> w10.heap[b]? = (w4.alloc (.cells #[S x] 9)).heap[b]? := fun b hb => hgr10.block b (by have := HB5.out.size; omega) (fun e => by have := HROW.out.2 b e.symm; omega)
        have e1 : Box (w.heap.size + 1) 22 (.slice ob tl cb) w10 := (hk5 _ (by omega)).trans (HBX.out.below HB5.out)
        have e2 : Blk w.heap.size #[.int .i64 1, .slice on us.length cn, .slice om r.nums.length cm, .slice ot r.texts.length ct, .slice (some ra) 4 crw] 29 w10 := (hk5 _ (by omega)).trans (HW1.out.db.below HB5.out)
        exact ⟨e1.cell, e2.cell 0, e2.cell 1, e2.cell 2, e2.cell 3, e2.cell 4⟩
       clear hK K hrow10 hgr10 hb10
       refine oneH 5 (by rfl) (by kernel_rfl) (fun K hK => ?_)
       gi_wp2_with fail
       refine hK _ _ (fun h => by simp at h) ?_
       clear hK K
       refine doneH (by kernel_rfl) ?_
       gi_wp2_with fail
       go_ret
       have hr10 := HR10.out
       rw [List.length_cons, List.length_nil, show (ts1.map (fun x => [S x]) ++ [[S x]]) = (ts1 ++ [x]).map (fun x => [S x]) by simp, strs_flat] at hr10
       rw [HWW.out, HXX.out, HTS.out]
       exact wo_ret (by simp) (by rw [List.length_append, HTLE.out]; rfl) hr10 HB10.out
      by_cases h28 : t = 28
      ·subst h28
       obtain rfl : rl = 16 := by rw [<- HRL.out]; exact H16.out HTT.out
       have hraw := HRL.out
       obtain ⟨ra, rfl⟩ : ∃ a, orw = some a := by
        obtain ⟨o', c', e, _, _, _, h⟩ := HRW.out
        simp only [Value.slice.injEq] at e
        obtain ⟨rfl, _, _⟩ := e
        obtain ⟨a, ha, _⟩ := h 0 (by rw [List.length_map, hraw]; decide)
        exact ⟨a, ha⟩
       have hw : Tw.words r = Tw.base r ++ [(Tw.addr6 r.raw)] := by unfold Tw.words; rw [HTT.out, if_neg (by decide), if_pos rfl]
       have HWW := Lib.hid hw
       obtain ⟨ts1, hts⟩ : ∃ l, Tw.base r = l := ⟨_, rfl⟩
       rw [hts] at HW1
       have HTS := Lib.hid hts
       obtain ⟨tl, htl⟩ : ∃ n, ts1.length = n := ⟨_, rfl⟩
       have htl2 : tl <= 60000 := by have h1 := Tw.base_len HF.out; rw [<- htl, <- hts]; omega
       obtain ⟨ob, cb, hbx, hrow⟩ := HW1.out.sb.bx
       rw [htl] at hbx hrow
       have HTLE := Lib.hid htl
       have HTL := Lib.hid htl2
       have HROW := Lib.hid hrow
       have HBX := Lib.hid hbx
       obtain ⟨x, hx⟩ : ∃ x, (Tw.addr6 r.raw) = x := ⟨_, rfl⟩
       have HXX := Lib.hid hx
       clear hraw hw hts htl htl2 hbx hrow hx
       gi_wp2_with fail
       have HST : Hid (∀ W', Below wr.heap.size wr W' -> W'.cell? ⟨w.heap.size + 1, 0, none⟩ = some (.slice ob tl cb) /\ W'.cell? ⟨w.heap.size, 0, none⟩ = some (.int .i64 28) /\ W'.cell? ⟨w.heap.size, 1, none⟩ = some (.slice on us.length cn) /\ W'.cell? ⟨w.heap.size, 2, none⟩ = some (.slice om r.nums.length cm) /\ W'.cell? ⟨w.heap.size, 3, none⟩ = some (.slice ot r.texts.length ct) /\ W'.cell? ⟨w.heap.size, 4, none⟩ = some (.slice (some ra) 16 crw)) := fun W' hb =>
        ⟨(HBX.out.below hb).cell, (HW1.out.db.below hb).cell 0, (HW1.out.db.below hb).cell 1, (HW1.out.db.below hb).cell 2, (HW1.out.db.below hb).cell 3, (HW1.out.db.below hb).cell 4⟩
       refine drawnH [0, 1, 2, 3, 4] (fun W' => W'.cell? ⟨w.heap.size + 1, 0, none⟩ = some (.slice ob tl cb) /\ W'.cell? ⟨w.heap.size, 0, none⟩ = some (.int .i64 28) /\ W'.cell? ⟨w.heap.size, 1, none⟩ = some (.slice on us.length cn) /\ W'.cell? ⟨w.heap.size, 2, none⟩ = some (.slice om r.nums.length cm) /\ W'.cell? ⟨w.heap.size, 3, none⟩ = some (.slice ot r.texts.length ct) /\ W'.cell? ⟨w.heap.size, 4, none⟩ = some (.slice (some ra) 16 crw)) 6 rfl (by kernel_rfl) ?_
       intro w' hw'
       have hbd : Below wr.heap.size wr w' := by subst hw'; exact (Below.refl _ _).drew
       have hS := HST.out _ hbd
       have HBD := Lib.hid hbd
       clear hw' hbd
       refine tH 0 ?qyv0 hS (fun w1 ⟨d1, d2, d3, d4, d5, d6⟩ => ?qyy0) ?_
       case qyy0 => go_simp; try rfl
       refine tH 1 ?qyv1 hS (fun w1 ⟨d1, d2, d3, d4, d5, d6⟩ => ?qyy1) ?_
       case qyy1 => go_simp; try rfl
       simp only [Act.put, List.setIfInBounds_toArray, List.set_cons_succ, List.set_cons_zero]
       clear hS
       have HG : Hid (Calls Tryz.prog 104 #[.agg #[.int .i64 28, .slice on us.length cn, .slice om r.nums.length cm, .slice ot r.texts.length ct, .slice (some ra) (8 * 2) crw], .int .i64 ((2 : Nat) : Int), .int .i64 ((16 : Nat) : Int), S [58]] w' (Gives (S x) w')) := by
        have hG := groups_any 28 on om ot us.length cn r.nums.length cm r.texts.length ct ra 8 2 crw 16 r.raw [58] w' (by decide) (by decide) (by decide) HRL.out (by decide) (Sl.below HRW.out (below5 HW1.out.sb.below HBD.out)) Tw.hex2 Tw.hex2_len (fun c hc W hb => by
         rw [show Tw.hex2 c = Hx.hexd (Tx.val c) by unfold Tw.hex2; rw [List.take_of_length_le (by omega)]]
         exact fmtHex_any _ (by have := Tx.val_le (l := c) (by omega); omega) W (HDB.out.below (below5 (below5 HW1.out.sb.below HBD.out) hb)))
        rw [<- HXX.out]; exact hG
       refine oneH 2 (by rfl) (by kernel_rfl) (fun K hK => ?_)
       gi_wp2_with fail
       refine (callsIn_wide.2 HG.out).mono ?_
       rintro e w4 ⟨rfl, b4⟩
       have HB4 := Lib.hid (below5 HBD.out b4)
       clear b4 HG
       gi_wp2_with fail
       refine hK _ _ (fun _ => HST.out _ HB4.out) ?_
       clear hK K
       refine oneH 3 (by rfl) (by kernel_rfl) (fun K hK => ?_)
       gi_wp2_with fail
       have HB5 : Hid (Below wr.heap.size wr (w4.alloc (.cells #[S x] 9))) := HB4.out.alloc HB4.out.size _
       refine hK _ _ (fun _ => HST.out _ HB5.out) ?_
       clear hK K
       refine oneH 4 (by rfl) (by kernel_rfl) (fun K hK => ?_)
       have HR5 : Hid (Row (fun g => w.heap.size + 2 <= g) 9 1 (.slice ob tl cb) tl (ts1.map fun x => [S x]).flatten (w4.alloc (.cells #[S x] 9))) := by show Row _ _ _ _ _ _ _; rw [strs_flat]; exact HROW.out.below HB5.out
       refine append_g (fun g => w.heap.size + 2 <= g) 9 _ 1 16 Tryz.info_str rfl (by decide) rfl _ _ _ Tryz.underlying22 rfl _ tl (ts1.map fun x => [S x]) (by rfl) HR5.out _ [[S x]] (by rfl) (GRd.new [S x] rfl (by simp [Value.oneCell', S]) w4 9) (by have := HTL.out; simp; omega) (by omega) (by have := HW1.out.sb.size; have := HB5.out.size; omega) ?_
       intro v10 w10 hrow10 hgr10
       obtain ⟨o10, c10, e10⟩ := hrow10.form
       subst e10
       have hb10 : Below w.heap.size w w10 := (below5 HW1.out.sb.below HB5.out).grown hgr10 (below5 HW1.out.sb.below HB5.out).size (fun g hg => by have := HROW.out.2 g hg; omega)
       have HR10 := Lib.hid hrow10
       have HB10 := Lib.hid hb10
       refine hK _ _ (fun _ => ?ss28) ?_
       case ss28 =>
        have hsz := HW1.out.sb.size
        have hk5 : ∀ b, b < w.heap.size + 2 -> w10.heap[b]? = (w4.alloc (.cells #[S x] 9)).heap[b]? := fun b hb => hgr10.block b (by have := HB5.out.size; omega) (fun e => by have := HROW.out.2 b e.symm; omega)
        have e1 : Box (w.heap.size + 1) 22 (.slice ob tl cb) w10 := (hk5 _ (by omega)).trans (HBX.out.below HB5.out)
        have e2 : Blk w.heap.size #[.int .i64 28, .slice on us.length cn, .slice om r.nums.length cm, .slice ot r.texts.length ct, .slice (some ra) 16 crw] 29 w10 := (hk5 _ (by omega)).trans (HW1.out.db.below HB5.out)
        exact ⟨e1.cell, e2.cell 0, e2.cell 1, e2.cell 2, e2.cell 3, e2.cell 4⟩
       clear hK K hrow10 hgr10 hb10
       refine oneH 5 (by rfl) (by kernel_rfl) (fun K hK => ?_)
       gi_wp2_with fail
       refine hK _ _ (fun h => by simp at h) ?_
       clear hK K
       refine doneH (by kernel_rfl) ?_
       gi_wp2_with fail
       go_ret
       have hr10 := HR10.out
       rw [List.length_cons, List.length_nil, show (ts1.map (fun x => [S x]) ++ [[S x]]) = (ts1 ++ [x]).map (fun x => [S x]) by simp, strs_flat] at hr10
       rw [HWW.out, HXX.out, HTS.out]
       exact wo_ret (by simp) (by rw [List.length_append, HTLE.out]; rfl) hr10 HB10.out
      have f1 : (t == 1) = false := by simpa using h1
      have f28 : (t == 28) = false := by simpa using h28
      rcases hkn : (Ty.nameOf t).isSome with _ | _
      ·have HKN := Lib.hid hkn
       clear hkn
       gi_wp2_with fail
       refine (callsIn_wide.2 (rknown_any t _)).mono ?_
       rintro e w5 ⟨rfl, b5⟩
       rw [HKN.out]
       have HW5 : Hid (WoM w #[.int .i64 t, .slice on us.length cn, .slice om r.nums.length cm, .slice ot r.texts.length ct, .slice orw rl crw] (Tw.base r) w5) := HW1.out.step (HW1.out.sb.on b5) (KeptR.below b5 HW1.out.sb.size)
       clear b5 c0 HW1
       obtain ⟨ts1, hts⟩ : ∃ l, Tw.base r = l := ⟨_, rfl⟩
       rw [hts] at HW5
       have HTS := Lib.hid hts
       obtain ⟨tl, htl⟩ : ∃ n, ts1.length = n := ⟨_, rfl⟩
       have htl2 : tl <= 60000 := by have h1 := Tw.base_len HF.out; rw [<- htl, <- hts]; omega
       have HM1 := Lib.hid HW5.out.sb
       obtain ⟨ob, cb, hbx, hrow⟩ := HM1.out.bx
       rw [htl] at hbx hrow
       have HTLE := Lib.hid htl
       have HTL := Lib.hid htl2
       have HROW := Lib.hid hrow
       have HBX := Lib.hid hbx
       have HQ : Hid (w.heap.size <= w.heap.size + 1 /\ w.heap.size + 1 < w.heap.size + 2) := ⟨by omega, by omega⟩
       clear hts htl htl2 hbx hrow
       gi_wp2_with fail
       have HST : Hid (∀ W', Below w5.heap.size w5 W' -> W'.cell? ⟨w.heap.size + 1, 0, none⟩ = some (.slice ob tl cb) /\ W'.cell? ⟨w.heap.size, 4, none⟩ = some (.slice orw rl crw)) := fun W' hb => ⟨(HBX.out.below hb).cell, (HW5.out.db.below hb).cell 4⟩
       refine drawnH [0, 2, 4, 5, 6] (fun W' => W'.cell? ⟨w.heap.size + 1, 0, none⟩ = some (.slice ob tl cb) /\ W'.cell? ⟨w.heap.size, 4, none⟩ = some (.slice orw rl crw)) 8 rfl (by kernel_rfl) ?_
       intro w' hw'
       have hbd : Below w5.heap.size w5 w' := by subst hw'; exact (Below.refl _ _).drew
       have hS := HST.out _ hbd
       have HBD := Lib.hid hbd
       clear hw' hbd
       refine tP 1 ?quv1 (fun w1 _ => ?quy1) ?_
       case quy1 => go_simp; try rfl
       simp only [Act.put, List.setIfInBounds_toArray, List.set_cons_succ, List.set_cons_zero]
       refine tH 2 ?quv2 hS (fun w1 ⟨d1, d2⟩ => ?quy2) ?_
       case quy2 => go_simp; try rfl
       simp only [Act.put, List.setIfInBounds_toArray, List.set_cons_succ, List.set_cons_zero]
       refine tP 3 ?quv3 (fun w1 _ => ?quy3) ?_
       case quy3 => go_simp; try rfl
       simp only [Act.put, List.setIfInBounds_toArray, List.set_cons_succ, List.set_cons_zero]
       refine tH 0 ?quv0 hS (fun w1 ⟨d1, d2⟩ => ?quy0) ?_
       case quy0 => go_simp; try rfl
       simp only [Act.put, List.setIfInBounds_toArray, List.set_cons_succ, List.set_cons_zero]
       clear hS
       obtain ⟨x, hx⟩ : ∃ x, Lib.decDigits rl = x := ⟨_, rfl⟩
       have HXX := Lib.hid hx
       have HC : Hid (Calls Tryz.prog 69 #[.int .i64 (rl : Int)] w' (Gives (S x) w')) := by
        have := itoa_any rl (by omega) w' (HT.out.below (below5 HM1.out.below HBD.out))
        rw [hx] at this; exact this
       clear hx
       refine oneH 4 (by rfl) (by kernel_rfl) (fun K hK => ?_)
       gi_wp2_with fail
       refine (callsIn_wide.2 HC.out).mono ?_
       rintro e w4 ⟨rfl, b4⟩
       have HB4 := Lib.hid (below5 HBD.out b4)
       clear b4 HC
       gi_wp2_with fail
       refine hK _ _ (fun _ => HST.out _ HB4.out) ?_
       clear hK K
       refine oneH 5 (by rfl) (by kernel_rfl) (fun K hK => ?_)
       gi_wp2_with fail
       have HB5 : Hid (Below w5.heap.size w5 (w4.alloc (.cells #[.string ⟨#[92, 35]⟩, S x] 9))) := HB4.out.alloc HB4.out.size _
       refine hK _ _ (fun _ => HST.out _ HB5.out) ?_
       clear hK K
       refine oneH 6 (by rfl) (by kernel_rfl) (fun K hK => ?_)
       have HR5 : Hid (Row (fun g => w.heap.size + 2 <= g) 9 1 (.slice ob tl cb) tl (ts1.map fun x => [S x]).flatten (w4.alloc (.cells #[.string ⟨#[92, 35]⟩, S x] 9))) := by show Row _ _ _ _ _ _ _; rw [strs_flat]; exact HROW.out.below HB5.out
       refine append_g (fun g => w.heap.size + 2 <= g) 9 _ 1 16 Tryz.info_str rfl (by decide) rfl _ _ _ Tryz.underlying22 rfl _ tl (ts1.map fun x => [S x]) (by rfl) HR5.out _ [[.string ⟨#[92, 35]⟩], [S x]] (by rfl) (GRd.two (.string ⟨#[92, 35]⟩) (S x) rfl rfl w4 9) (by have := HTL.out; simp; omega) (by omega) (by have := HM1.out.size; have := HB5.out.size; omega) ?_
       intro v10 w10 hrow10 hgr10
       obtain ⟨o10, c10, e10⟩ := hrow10.form
       subst e10
       have hlt2 : (w.heap.size + 1) < (w4.alloc (.cells #[.string ⟨#[92, 35]⟩, S x] 9)).heap.size := by have := HM1.out.size; have := HB5.out.size; omega
       have hown : ∀ g, (Value.slice ob tl cb).ownBlock = some g -> w.heap.size + 2 <= g := fun g hg => HROW.out.2 g hg
       have hbx10 : Box (w.heap.size + 1) 22 (.slice ob tl cb) w10 := (hgr10.block _ hlt2 (fun e => by have := hown _ e.symm; omega)).trans (HBX.out.below HB5.out)
       have hdb10 : w10.cell? ⟨w.heap.size, 4, none⟩ = some (.slice orw rl crw) := Blk.cell (show Blk w.heap.size #[.int .i64 t, .slice on us.length cn, .slice om r.nums.length cm, .slice ot r.texts.length ct, .slice orw rl crw] 29 w10 from (hgr10.block _ (by omega) (fun e => by have := hown _ e.symm; omega)).trans (HW5.out.db.below HB5.out)) 4
       have y0 := hbx10.cell
       have y1 := hbx10.frozen
       have HR10 := Lib.hid hrow10
       have HG10 := Lib.hid hgr10
       refine hK _ _ (fun _ => ⟨y0, hdb10⟩) ?_
       clear hK K hrow10 hgr10 hbx10 hlt2 hown hdb10
       refine oneH 7 (by rfl) (by kernel_rfl) (fun K hK => ?_)
       gi_wp2_with fail
       refine hK _ _ (fun h => by simp at h) ?_
       clear hK K y0 y1
       refine doneH (by kernel_rfl) ?_
       obtain ⟨W6, hW6⟩ : ∃ W, w10.setCell ⟨w.heap.size + 1, 0, none⟩ (.slice o10 (tl + 2) c10) = W := ⟨_, rfl⟩
       have HW6 : Hid (WoM w #[.int .i64 t, .slice on us.length cn, .slice om r.nums.length cm, .slice ot r.texts.length ct, .slice orw rl crw] (Tw.base r ++ [[92, 35], Lib.decDigits rl]) W6) := by
        have hR5' := HR5.out
        rw [strs_flat] at hR5'
        have hR10 := HR10.out
        rw [show (ts1.map (fun x => [S x]) ++ [[.string ⟨#[92, 35]⟩], [S x]]) = (ts1 ++ [[92, 35], x]).map (fun x => [S x]) by rw [List.map_append]; rfl, strs_flat] at hR10
        have HK := HM1.out.pushN (q := w.heap.size + 1) (by omega) (by omega) [[92, 35], x] HB5.out (HBX.out.below HB5.out) (by rw [HTLE.out]; exact hR5') (by rw [HTLE.out]; exact hR10) HG10.out
        have e1 : WoM w #[.int .i64 t, .slice on us.length cn, .slice om r.nums.length cm, .slice ot r.texts.length ct, .slice orw rl crw] (ts1 ++ [[92, 35], x]) (w10.setCell ⟨w.heap.size + 1, 0, none⟩ (.slice o10 (tl + 2) c10)) := HW5.out.step HK.1 HK.2
        rw [hW6] at e1
        show WoM _ _ _ _
        rw [HTS.out, HXX.out]; exact e1
       rw [hW6]
       clear hW6 HR10 HG10 HR5 HROW HBX HTLE HTL HST HM1 HTS HXX HW5
       have c4 : W6.cell? ⟨w.heap.size, 4, none⟩ = some (.slice orw rl crw) := HW6.out.db.cell 4
       have HU0 : Hid (Tw.words r = Tw.base r ++ [[92, 35], Lib.decDigits rl] ++ (if 0 < rl then [Hx.hexB r.raw] else [])) := by
        show _ = _
        unfold Tw.words; rw [HTT.out, if_neg h1, if_neg h28, HKN.out, if_neg (by decide), HRL.out]
       by_cases hrp : 0 < rl
       ·have hrz : (0 : Int) < (rl : Int) := by omega
        have hu := HU0.out
        rw [if_pos hrp] at hu
        have HWW := Lib.hid hu
        have HRP := Lib.hid hrp
        clear hu hrp HU0
        obtain ⟨ts1, hts⟩ : ∃ l, Tw.base r ++ [[92, 35], Lib.decDigits rl] = l := ⟨_, rfl⟩
        rw [hts] at HW6
        have HTS := Lib.hid hts
        obtain ⟨tl, htl⟩ : ∃ n, ts1.length = n := ⟨_, rfl⟩
        have htl2 : tl <= 60000 := by have h1 := Tw.base_len HF.out; rw [<- htl, <- hts]; simp; omega
        have HM1 := Lib.hid HW6.out.sb
        obtain ⟨ob, cb, hbx, hrow⟩ := HM1.out.bx
        rw [htl] at hbx hrow
        have HTLE := Lib.hid htl
        have HTL := Lib.hid htl2
        have HROW := Lib.hid hrow
        have HBX := Lib.hid hbx
        clear hts htl htl2 hbx hrow
        gi_wp2_with fail
        clear c4
        have HST : Hid (∀ W', Below W6.heap.size W6 W' -> W'.cell? ⟨w.heap.size + 1, 0, none⟩ = some (.slice ob tl cb) /\ W'.cell? ⟨w.heap.size, 4, none⟩ = some (.slice orw rl crw)) := fun W' hb => ⟨(HBX.out.below hb).cell, (HW6.out.db.below hb).cell 4⟩
        refine drawnH [0, 2, 3, 4, 5] (fun W' => W'.cell? ⟨w.heap.size + 1, 0, none⟩ = some (.slice ob tl cb) /\ W'.cell? ⟨w.heap.size, 4, none⟩ = some (.slice orw rl crw)) 7 rfl (by kernel_rfl) ?_
        intro w' hw'
        have hbd : Below W6.heap.size W6 w' := by subst hw'; exact (Below.refl _ _).drew
        have hS := HST.out _ hbd
        have HBD := Lib.hid hbd
        clear hw' hbd
        refine tP 1 ?qvv1 (fun w1 _ => ?qvy1) ?_
        case qvy1 => go_simp; try rfl
        simp only [Act.put, List.setIfInBounds_toArray, List.set_cons_succ, List.set_cons_zero]
        refine tH 0 ?qvv0 hS (fun w1 ⟨d1, d2⟩ => ?qvy0) ?_
        case qvy0 => go_simp; try rfl
        refine tH 2 ?qvv2 hS (fun w1 ⟨d1, d2⟩ => ?qvy2) ?_
        case qvy2 => go_simp; try rfl
        simp only [Act.put, List.setIfInBounds_toArray, List.set_cons_succ, List.set_cons_zero]
        clear hS
        obtain ⟨x, hx⟩ : ∃ x, Hx.hexB r.raw = x := ⟨_, rfl⟩
        have HXX := Lib.hid hx
        have HC : Hid (Calls Tryz.prog 106 #[.slice orw rl crw] w' (Gives (S x) w')) := by
         have := hex_any (.slice orw rl crw) r.raw w' (by rw [HRL.out]; exact HRP.out) (by have := HF.out.raw; omega) (Sl.below HRW.out (below5 HM1.out.below HBD.out))
         rw [hx] at this; exact this
        clear hx
        refine oneH 3 (by rfl) (by kernel_rfl) (fun K hK => ?_)
        gi_wp2_with fail
        refine (callsIn_wide.2 HC.out).mono ?_
        rintro e w4 ⟨rfl, b4⟩
        have HB4 := Lib.hid (below5 HBD.out b4)
        clear b4 HC
        gi_wp2_with fail
        refine hK _ _ (fun _ => HST.out _ HB4.out) ?_
        clear hK K
        refine oneH 4 (by rfl) (by kernel_rfl) (fun K hK => ?_)
        gi_wp2_with fail
        have hd4 : ∀ W', Below W6.heap.size W6 W' -> W'.cell? ⟨w.heap.size, 4, none⟩ = some (.slice orw rl crw) := fun W' hb => (HW6.out.db.below hb).cell 4
        have HD4 := Lib.hid hd4
        clear hd4
        have HB5 : Hid (Below W6.heap.size W6 (w4.alloc (.cells #[S x] 9))) := HB4.out.alloc HB4.out.size _
        refine hK _ _ (fun _ => HST.out _ HB5.out) ?_
        clear hK K
        refine oneH 5 (by rfl) (by kernel_rfl) (fun K hK => ?_)
        have HR5 : Hid (Row (fun g => (w.heap.size + 2) <= g) 9 1 (.slice ob tl cb) tl (ts1.map fun x => [S x]).flatten (w4.alloc (.cells #[S x] 9))) := by show Row _ _ _ _ _ _ _; rw [strs_flat]; exact HROW.out.below HB5.out
        refine append_g (fun g => (w.heap.size + 2) <= g) 9 _ 1 16 Tryz.info_str rfl (by decide) rfl _ _ _ Tryz.underlying22 rfl _ tl (ts1.map fun x => [S x]) (by rfl) HR5.out _ [[S x]] (by rfl) (GRd.new [S x] rfl (by simp [Value.oneCell', S]) w4 9) (by have := HTL.out; simp; omega) (by omega) (by have := HM1.out.size; have := HB5.out.size; omega) ?_
        intro v10 w10 hrow10 hgr10
        obtain ⟨o10, c10, e10⟩ := hrow10.form
        subst e10
        have hlt2 : (w.heap.size + 1) < (w4.alloc (.cells #[S x] 9)).heap.size := by have := HM1.out.size; have := HB5.out.size; omega
        have hown : ∀ g, (Value.slice ob tl cb).ownBlock = some g -> (w.heap.size + 2) <= g := fun g hg => HROW.out.2 g hg
        have hbx10 : Box (w.heap.size + 1) 22 (.slice ob tl cb) w10 := (hgr10.block _ hlt2 (fun e => by have := hown _ e.symm; omega)).trans (HBX.out.below HB5.out)
        have y0 := hbx10.cell
        have y1 := hbx10.frozen
        have HR10 := Lib.hid hrow10
        have HG10 := Lib.hid hgr10
        refine hK _ _ (fun _ => ⟨y0, Blk.cell (show Blk w.heap.size #[.int .i64 t, .slice on us.length cn, .slice om r.nums.length cm, .slice ot r.texts.length ct, .slice orw rl crw] 29 w10 from (HG10.out.block _ (by have := HM1.out.size; have := HB5.out.size; omega) (fun e => by have := HROW.out.2 _ e.symm; omega)).trans (HW6.out.db.below HB5.out)) 4⟩) ?_
        clear hK K hrow10 hgr10 hbx10 hlt2 hown
        refine oneH 6 (by rfl) (by kernel_rfl) (fun K hK => ?_)
        gi_wp2_with fail
        refine hK _ _ (fun h => by simp at h) ?_
        clear hK K y0 y1
        refine doneH (by kernel_rfl) ?_
        have hR5' := HR5.out
        rw [strs_flat] at hR5'
        have hR10 := HR10.out
        rw [List.length_cons, List.length_nil, show (ts1.map (fun x => [S x]) ++ [[S x]]) = (ts1 ++ [x]).map (fun x => [S x]) by simp, strs_flat] at hR10
        have HK := HM1.out.push (q := (w.heap.size + 1)) (by omega) (by omega) x HB5.out (HBX.out.below HB5.out) (by rw [HTLE.out]; exact hR5') (by rw [HTLE.out]; exact hR10) HG10.out
        obtain ⟨p1', p2', p3'⟩ := HK
        have e7 : WoM w #[.int .i64 t, .slice on us.length cn, .slice om r.nums.length cm, .slice ot r.texts.length ct, .slice orw rl crw] (ts1 ++ [x]) (w10.setCell ⟨w.heap.size + 1, 0, none⟩ (.slice o10 (tl + 1) c10)) := HW6.out.step p1' p3'
        obtain ⟨W7, hW7⟩ : ∃ W, w10.setCell ⟨w.heap.size + 1, 0, none⟩ (.slice o10 (tl + 1) c10) = W := ⟨_, rfl⟩
        rw [hW7] at e7 ⊢
        have e7b : WoM w #[.int .i64 t, .slice on us.length cn, .slice om r.nums.length cm, .slice ot r.texts.length ct, .slice orw rl crw] (Tw.words r) W7 := by rw [HWW.out, HTS.out, HXX.out]; exact e7
        have HE7 := Lib.hid e7b
        clear e7 e7b hW7 p1' p2' p3' hR10 hR5' HR10 HG10 HR5 HM1 HWW
        have HM6 := Lib.hid HE7.out.sb
        clear HE7 HROW HBX
        obtain ⟨ob, cb, hbx, hrow⟩ := HM6.out.bx
        obtain ⟨n, hn⟩ : ∃ n, (Tw.words r).length = n := ⟨_, rfl⟩
        rw [hn] at hbx hrow
        have HN := Lib.hid hn
        have HROW := Lib.hid hrow
        have HB := Lib.hid HM6.out.below
        have c1 := hbx.cell
        clear hn hbx hrow HM6
        gi_wp2_with fail
        go_ret
        exact wo_ret HNE.out HN.out HROW.out HB.out
       ·obtain rfl : rl = 0 := by omega
        have hu := HU0.out
        rw [if_neg hrp, List.append_nil] at hu
        have HWW := Lib.hid hu
        clear hu hrp HU0
        have HM6 := Lib.hid HW6.out.sb
        clear HW6
        obtain ⟨ob, cb, hbx, hrow⟩ := HM6.out.bx
        obtain ⟨n, hn⟩ : ∃ n, (Tw.base r ++ [[92, 35], Lib.decDigits 0]).length = n := ⟨_, rfl⟩
        rw [hn] at hbx hrow
        have HN := Lib.hid hn
        have HROW := Lib.hid hrow
        have HB := Lib.hid HM6.out.below
        have c1 := hbx.cell
        clear hn hbx hrow HM6
        gi_wp2_with fail
        go_ret
        rw [HWW.out]
        exact wo_ret (by simp) HN.out HROW.out HB.out
      have HKN := Lib.hid hkn
      clear hkn
      gi_wp2_with fail
      refine (callsIn_wide.2 (rknown_any t _)).mono ?_
      rintro e w5 ⟨rfl, b5⟩
      rw [HKN.out]
      obtain ⟨ob, cb, hbx, hrow⟩ := (HW1.out.sb.on b5).bx
      obtain ⟨n, hn⟩ : ∃ n, (Tw.base r).length = n := ⟨_, rfl⟩
      rw [hn] at hbx hrow
      have HN := Lib.hid hn
      have HROW := Lib.hid hrow
      have HB := Lib.hid (HW1.out.sb.on b5).below
      have c1 := hbx.cell
      have hw : Tw.words r = Tw.base r := by unfold Tw.words; rw [HTT.out, if_neg h1, if_neg h28, HKN.out, if_pos rfl]
      have HNE2 := HNE.out
      rw [hw] at HNE2
      have HNE3 := Lib.hid HNE2
      have HWW := Lib.hid hw
      clear hn hbx hrow b5 HNE2 hw
      gi_wp2_with fail
      go_ret
      rw [HWW.out]
      exact wo_ret HNE3.out HN.out HROW.out HB.out
end Go.Proofs.YtgmbefolgppmdaaGreatDoor
