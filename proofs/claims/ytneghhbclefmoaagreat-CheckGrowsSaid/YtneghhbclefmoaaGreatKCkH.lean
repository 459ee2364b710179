/- What is wrong at an origin: going over it. -/
import Derived.Test.YtneghhbclefmoaaGreatKCkB
import Derived.Test.YtneghhbclefmoaaGreatKCkA
import Derived.Test.YtneghhbclefmoaaGreatKCkG
section
namespace Go.Proofs.YtneghhbclefmoaaGreat
open Go.RowKit Go.Shelf Go.Sort
set_option maxRecDepth 100000
attribute [local go_sem] Oper.semAt_some
theorem apexCall_any (v0 v1 : Value) (w : World) :
  Calls Tryz.prog 85 #[.agg #[v0, v1]] w fun e w' => e = .returned (.func (.func 126) #[] #[.pointer (some ⟨w.heap.size, 0, none⟩)]) /\ w.alloc (.cells #[v0, v1] 29) = w' := by
 go_enter Tryz.func85, Tryz.ntmps85
 go_wp2
 go_ret
 exact ⟨rfl, rfl⟩
section
variable {w : World}
theorem ofV_form {c : List (El w)} {v : Value} {W : World} (h : ofV c v W) : ∃ (p : Option Addr) (m q : Nat) (ty : Int) (tt : Nat) (od : Option Addr) (cd : Nat), v = .agg #[.slice p m q, .int .i64 ty, .int .u32 (tt : Int), .slice od (Rs.datOf (plE c)).length cd] := by
 cases c with
 | nil => exact ⟨none, 0, 0, 0, 0, none, 0, h⟩
 | cons x xs =>
  obtain ⟨vo, od, cd, rfl, ho, _⟩ := h
  obtain ⟨p, q, rfl, _, _⟩ := ho.form
  have hl : (Rs.datOf (plE (x :: xs))).length = Rs.run x.1.2 (plE (x :: xs)) := by
   show (List.take (Rs.run x.1.2 (plE (x :: xs))) (plE (x :: xs))).length = _
   rw [List.length_take]
   exact Nat.min_eq_left (Rs.run_le _ _)
  rw [hl]
  exact ⟨p, _, q, _, _, od, cd, rfl⟩
structure ZAt (Sk : Nat -> Prop) (L bz : Nat) (zo vr : Value) (l : List (El w)) (W : World) : Prop where
 zb : Blk bz #[zo, vr] 29 W
 rd : RecsRd vr (l.map (·.1)) W
 row : ∀ o n c, vr = .slice o n c -> ∀ a, o = some a -> 0 < l.length -> Sk a.block
 below : Below w.heap.size w W
 lt : L < W.heap.size
def zKp (w : World) (Sk : Nat -> Prop) (L : Nat) (A B : World) : Prop :=
 keepH Sk A B /\ (Below w.heap.size w A -> Below w.heap.size w B) /\ (∀ k c f, L < k -> A.heap[k]? = some (.cells c 116 f) -> B.heap[k]? = some (.cells c 116 f)) /\ A.heap.size <= B.heap.size
theorem zKp.trans {Sk : Nat -> Prop} {L : Nat} {A B C : World} (h : zKp w Sk L A B) (k : zKp w Sk L B C) : zKp w Sk L A C := ⟨h.1.trans k.1, fun x => k.2.1 (h.2.1 x), fun i c f hi hk => k.2.2.1 i c f hi (h.2.2.1 i c f hi hk), Nat.le_trans h.2.2.2 k.2.2.2⟩
theorem zKp.put {Sk : Nat -> Prop} {L : Nat} (hL : ¬ Sk L) (hw : w.heap.size <= L) (A : World) (o : Obj) : zKp w Sk L A (A.putObj L o) :=
 ⟨keepH.put hL A o, fun h => h.grown (grownBy_putObj' A L o) h.size (fun k e => by cases e; exact hw), fun k c f hk h => (World.putObj_heap_other (by omega)).trans h, by simp⟩
theorem zKp.of_below {Sk : Nat -> Prop} {L : Nat} {A B : World} (h : Below A.heap.size A B) (hS : ∀ b, Sk b -> b < A.heap.size) : zKp w Sk L A B :=
 ⟨keepH.of_below h hS, fun x => below5 x h, fun k _c _f _ hk => (h.block k (Array.getElem?_eq_some_iff.1 hk).1).trans hk, h.size⟩
theorem ZAt.on {Sk : Nat -> Prop} {L bz : Nat} {zo vr : Value} {l : List (El w)} {A B : World} (h : ZAt Sk L bz zo vr l A) (hb : Below A.heap.size A B) : ZAt Sk L bz zo vr l B :=
 ⟨h.zb.below hb, h.rd.kept hb, h.row, below5 h.below hb, Nat.lt_of_lt_of_le h.lt hb.size⟩
theorem ZAt.kp {Sk : Nat -> Prop} {L bz : Nat} {zo vr : Value} {l : List (El w)} {A B : World} (h : ZAt Sk L bz zo vr l A) (hk : zKp w Sk L A B) (hbz : Sk bz) : ZAt Sk L bz zo vr l B := by
 have hb := hk.2.1 h.below
 refine ⟨(hk.1 bz hbz).trans h.zb, ⟨fun x hx => ?_, ?_⟩, h.row, hb, Nat.lt_of_lt_of_le h.lt hk.2.2.2⟩
 ·obtain ⟨y, _, rfl⟩ := List.mem_map.1 hx
  exact y.2.1.below hb
 ·obtain ⟨_, o', c', e1, e2, e3, e4, e5⟩ := h.rd
  refine ⟨o', c', e1, e2, e3, e4, fun j hj => ?_⟩
  obtain ⟨a, ha, hc⟩ := e5 j hj
  have hl : 0 < l.length := by have := hj; rw [encP_map, flat_len encE 7 encE_len] at this; omega
  exact ⟨a, ha, (hk.1.cell (by rw [add_block]; exact h.row _ _ _ e1 a ha hl)).trans hc⟩
theorem zKp.blk {Sk : Nat -> Prop} {L b : Nat} {cs : Array Value} {A B : World} (hk : zKp w Sk L A B) (h : Blk b cs 116 A) (hb : L < b) : Blk b cs 116 B := hk.2.2.1 b _ _ hb h
def apY (k : List (Int × Int)) (_A : World) (v : Array Value) (k' : List (Int × Int)) : Prop := ∃ a b, k = (a, b) :: k' /\ v = #[.int .i64 a, .int .i64 b]
set_option maxHeartbeats 4000000 in
theorem apex1_iter (Sk : Nat -> Prop) (L bz : Nat) (hsk : Sk bz) (zo vr : Value) (l : List (El w)) (o : List (List UInt8)) (na : l.length <= 1000) (ho : Rd zo o w) (no : NB o) :
  Iter Tryz.prog 126 #[.pointer (some ⟨bz, 0, none⟩)] (ZAt Sk L bz zo vr l) (fun A B => Below A.heap.size A B) (zKp w Sk L) apY (Ck.apexL o (plE l)) (fun k => k = []) := by
 intro lp J Jx W hpre hJs hJxs hY h0
 refine callsIn_of_wp Tryz.func126 rfl trivial ?_ rfl
 simp only [Tryz.ntmps126, List.size_toArray, List.length_cons, List.length_nil, Nat.reduceAdd, Nat.reduceSub, Array.replicate_succ, Array.replicate_zero, List.push_toArray, List.append_toArray, List.nil_append, List.cons_append]
 obtain ⟨oo, co, rfl, _, _⟩ := ho.form
 obtain ⟨ov, cv, rfl⟩ : ∃ o cap, vr = .slice o l.length cap := by obtain ⟨_, o, cap, h, _⟩ := hpre.rd; exact ⟨o, cap, by rw [h, List.length_map]⟩
 obtain ⟨b1, hb1⟩ : ∃ b, (Rs.mine (plE l) o 6).isEmpty = b := ⟨_, rfl⟩
 obtain ⟨n, hn⟩ : ∃ n, (Rs.datOf (Rs.mine (plE l) o 6)).length = n := ⟨_, rfl⟩
 obtain ⟨b3, hb3⟩ : ∃ b, Zn.has (plE l) o 2 = b := ⟨_, rfl⟩
 have hkk : Ck.apexL o (plE l) = (if b1 then [((1 : Int), (6 : Int))] else []) ++ ((if 1 < n then [((2 : Int), (6 : Int))] else []) ++ (if b3 then [] else [((3 : Int), (2 : Int))])) := by unfold Ck.apexL; rw [hb1, hn, hb3]
 rw [hkk] at h0
 have z0 : W.cell? ⟨bz, 0, none⟩ = some (.slice oo o.length co) := hpre.zb.cell 0
 have z1 : W.cell? ⟨bz, 1, none⟩ = some (.slice ov l.length cv) := hpre.zb.cell 1
 have HOF := Lib.hid (rsetOf_any (w0 := W) (.slice ov l.length cv) (.slice oo o.length co) l o 6 hpre.below hpre.rd na (ho.below hpre.below) no)
 have HZ := Lib.hid hpre
 have HO := Lib.hid ho
 have NO := Lib.hid no
 have HH3 := Lib.hid hb3
 clear ho no hpre hkk hb3
 gi_wp2_with fail
 refine (callsIn_wide.2 HOF.out).mono ?_
 rintro e W1 ⟨c, v, hc, hcl, rfl, hv, hbw⟩
 obtain ⟨p, m, q, ty, tt, od, cd, rfl⟩ := ofV_form hv
 have hce : c.isEmpty = b1 := by
  rw [<- hb1, <- hc]
  cases c <;> rfl
 rw [hc, hn, hce]
 rw [hc, hn] at hv
 have HB1 := Lib.hid hbw
 have HJ1 := Lib.hid (hJs _ _ _ h0 hbw)
 clear hv hc hce hbw HOF z0 z1 hb1 hn h0
 obtain ⟨W2, hW2⟩ : ∃ W2, W1.alloc (.cells #[.slice p m q, .int .i64 ty, .int .u32 (tt : Int), .slice od n cd] 116) = W2 := ⟨_, rfl⟩
 have hbs : W1.heap.size = W1.heap.size := rfl
 have hblk : Blk W1.heap.size #[.slice p m q, .int .i64 ty, .int .u32 (tt : Int), .slice od n cd] 116 W2 := by rw [<- hW2]; exact Blk.new W1 _ _
 have hb12 : Below W1.heap.size W1 W2 := by rw [<- hW2]; exact (Below.refl _ _).alloc (Nat.le_refl _) _
 have hLb : L < W1.heap.size :=  Nat.lt_of_lt_of_le HZ.out.lt HB1.out.size
 have hJ2 := hJs _ _ _ HJ1.out hb12
 have hZ2 := HZ.out.on (below5 HB1.out hb12)
 have HBK := Lib.hid hblk
 have HZ2 := Lib.hid hZ2
 have HJ2 := Lib.hid hJ2
 clear hbs hblk hb12 hJ2 hZ2 HB1 HJ1 HZ
 cases b1 with
 | true =>
  have HJ2' := Lib.hid (show J ((1, 6) :: ((if 1 < n then [((2 : Int), (6 : Int))] else []) ++ (if b3 then [] else [((3 : Int), (2 : Int))]))) W2 from HJ2.out)
  replace HJ2 := HJ2'
  clear HJ2'
  obtain ⟨fnW3, tmpsW3, assignW3, bodyW3, hyW3, hRW3⟩ := hY _ _ _ W2 HJ2.out ⟨1, 6, rfl, rfl⟩
  gi_wp2_with fail
  refine hRW3.mono ?_
  clear hRW3 hyW3
  rintro ew W3 (⟨rfl, hJ, hk⟩ | ⟨rfl, hJx⟩)
  ·have HZ3 := Lib.hid (HZ2.out.kp hk hsk)
   have HBK3 := Lib.hid (hk.blk HBK.out hLb)
   have HJ3 := Lib.hid hJ
   clear hJ hk HZ2 HBK HJ2
   have s3_3 : W3.cell? ⟨W1.heap.size, 3, none⟩ = some (.slice od n cd) := HBK3.out.cell 3
   by_cases hlt : 1 < n
   ·have hlz : (1 : Int) < (n : Int) := by omega
    have hld : decide ((1 : Int) < (n : Int)) = true := by simp; omega
    have HJ3' := Lib.hid (show J ((2, 6) :: (if b3 then [] else [((3 : Int), (2 : Int))])) W3 by have h := HJ3.out; rw [if_pos hlt] at h; exact h)
    replace HJ3 := HJ3'
    clear HJ3'
    obtain ⟨fnW5, tmpsW5, assignW5, bodyW5, hyW5, hRW5⟩ := hY _ _ _ W3 HJ3.out ⟨2, 6, rfl, rfl⟩
    gi_wp2_with fail
    refine hRW5.mono ?_
    clear hRW5 hyW5
    rintro ew W5 (⟨rfl, hJ, hk⟩ | ⟨rfl, hJx⟩)
    ·have HZ5 := Lib.hid (HZ3.out.kp hk hsk)
     have HJ5 := Lib.hid hJ
     clear hJ hk s3_3 HZ3 HJ3
     have u0_5 : W5.cell? ⟨bz, 0, none⟩ = some (.slice oo o.length co) := HZ5.out.zb.cell 0
     have u1_5 : W5.cell? ⟨bz, 1, none⟩ = some (.slice ov l.length cv) := HZ5.out.zb.cell 1
     have HHA := Lib.hid (zHas_any (w0 := W5) (.slice oo o.length co) (.slice ov l.length cv) (.slice oo o.length co) l o 2 HZ5.out.below HZ5.out.rd na (HO.out.below HZ5.out.below) NO.out)
     gi_wp2_with fail
     refine (callsIn_wide.2 HHA.out).mono ?_
     rintro e W6 ⟨rfl, hb⟩
     rw [HH3.out]
     have HJ6 := Lib.hid (hJs _ _ _ HJ5.out hb)
     clear hb HHA u0_5 u1_5 HJ5
     cases b3 with
     | true =>
      gi_wp2_with fail
      go_end0
      exact ⟨⟨_, rfl⟩, .inl ⟨[], rfl, HJ6.out⟩⟩
     | false =>
      obtain ⟨fnW11, tmpsW11, assignW11, bodyW11, hyW11, hRW11⟩ := hY _ [] _ W6 HJ6.out ⟨3, 2, rfl, rfl⟩
      gi_wp2_with fail
      refine hRW11.mono ?_
      clear hRW11 hyW11
      rintro ew W11 (⟨rfl, hJ, hk⟩ | ⟨rfl, hJx⟩)
      ·gi_wp2_with fail
       go_end0
       exact ⟨⟨_, rfl⟩, .inl ⟨[], rfl, hJ⟩⟩
      ·gi_wp2_with fail
       go_end0
       exact ⟨⟨_, rfl⟩, .inr hJx⟩
    ·gi_wp2_with fail
     refine bodyPost_ret (results_none rfl _ _ _) rfl ?_
     exact ⟨⟨_, rfl⟩, .inr (hJxs _ _ hJx (Below.refl _ _))⟩
   ·have hlz : ¬ (1 : Int) < (n : Int) := by omega
    have hld : decide ((1 : Int) < (n : Int)) = false := by simp; omega
    have HJ3' := Lib.hid (show J (if b3 then [] else [((3 : Int), (2 : Int))]) W3 by have h := HJ3.out; rw [if_neg hlt] at h; exact h)
    replace HJ3 := HJ3'
    clear HJ3'
    have u0_3 : W3.cell? ⟨bz, 0, none⟩ = some (.slice oo o.length co) := HZ3.out.zb.cell 0
    have u1_3 : W3.cell? ⟨bz, 1, none⟩ = some (.slice ov l.length cv) := HZ3.out.zb.cell 1
    have HHA := Lib.hid (zHas_any (w0 := W3) (.slice oo o.length co) (.slice ov l.length cv) (.slice oo o.length co) l o 2 HZ3.out.below HZ3.out.rd na (HO.out.below HZ3.out.below) NO.out)
    gi_wp2_with fail
    refine (callsIn_wide.2 HHA.out).mono ?_
    rintro e W4 ⟨rfl, hb⟩
    rw [HH3.out]
    have HJ4 := Lib.hid (hJs _ _ _ HJ3.out hb)
    clear hb HHA u0_3 u1_3 HJ3
    cases b3 with
    | true =>
     gi_wp2_with fail
     go_end0
     exact ⟨⟨_, rfl⟩, .inl ⟨[], rfl, HJ4.out⟩⟩
    | false =>
     obtain ⟨fnW9, tmpsW9, assignW9, bodyW9, hyW9, hRW9⟩ := hY _ [] _ W4 HJ4.out ⟨3, 2, rfl, rfl⟩
     gi_wp2_with fail
     refine hRW9.mono ?_
     clear hRW9 hyW9
     rintro ew W9 (⟨rfl, hJ, hk⟩ | ⟨rfl, hJx⟩)
     ·gi_wp2_with fail
      go_end0
      exact ⟨⟨_, rfl⟩, .inl ⟨[], rfl, hJ⟩⟩
     ·gi_wp2_with fail
      go_end0
      exact ⟨⟨_, rfl⟩, .inr hJx⟩
  ·gi_wp2_with fail
   refine bodyPost_ret (results_none rfl _ _ _) rfl ?_
   exact ⟨⟨_, rfl⟩, .inr (hJxs _ _ hJx (Below.refl _ _))⟩
 | false =>
  have HJ2' := Lib.hid (show J ((if 1 < n then [((2 : Int), (6 : Int))] else []) ++ (if b3 then [] else [((3 : Int), (2 : Int))])) W2 from HJ2.out)
  replace HJ2 := HJ2'
  clear HJ2'
  have s3_2 : W2.cell? ⟨W1.heap.size, 3, none⟩ = some (.slice od n cd) := HBK.out.cell 3
  by_cases hlt : 1 < n
  ·have hlz : (1 : Int) < (n : Int) := by omega
   have hld : decide ((1 : Int) < (n : Int)) = true := by simp; omega
   have HJ2' := Lib.hid (show J ((2, 6) :: (if b3 then [] else [((3 : Int), (2 : Int))])) W2 by have h := HJ2.out; rw [if_pos hlt] at h; exact h)
   replace HJ2 := HJ2'
   clear HJ2'
   obtain ⟨fnW4, tmpsW4, assignW4, bodyW4, hyW4, hRW4⟩ := hY _ _ _ W2 HJ2.out ⟨2, 6, rfl, rfl⟩
   gi_wp2_with fail
   refine hRW4.mono ?_
   clear hRW4 hyW4
   rintro ew W4 (⟨rfl, hJ, hk⟩ | ⟨rfl, hJx⟩)
   ·have HZ4 := Lib.hid (HZ2.out.kp hk hsk)
    have HJ4 := Lib.hid hJ
    clear hJ hk s3_2 HZ2 HJ2
    have u0_4 : W4.cell? ⟨bz, 0, none⟩ = some (.slice oo o.length co) := HZ4.out.zb.cell 0
    have u1_4 : W4.cell? ⟨bz, 1, none⟩ = some (.slice ov l.length cv) := HZ4.out.zb.cell 1
    have HHA := Lib.hid (zHas_any (w0 := W4) (.slice oo o.length co) (.slice ov l.length cv) (.slice oo o.length co) l o 2 HZ4.out.below HZ4.out.rd na (HO.out.below HZ4.out.below) NO.out)
    gi_wp2_with fail
    refine (callsIn_wide.2 HHA.out).mono ?_
    rintro e W5 ⟨rfl, hb⟩
    rw [HH3.out]
    have HJ5 := Lib.hid (hJs _ _ _ HJ4.out hb)
    clear hb HHA u0_4 u1_4 HJ4
    cases b3 with
    | true =>
     gi_wp2_with fail
     go_end0
     exact ⟨⟨_, rfl⟩, .inl ⟨[], rfl, HJ5.out⟩⟩
    | false =>
     obtain ⟨fnW10, tmpsW10, assignW10, bodyW10, hyW10, hRW10⟩ := hY _ [] _ W5 HJ5.out ⟨3, 2, rfl, rfl⟩
     gi_wp2_with fail
     refine hRW10.mono ?_
     clear hRW10 hyW10
     rintro ew W10 (⟨rfl, hJ, hk⟩ | ⟨rfl, hJx⟩)
     ·gi_wp2_with fail
      go_end0
      exact ⟨⟨_, rfl⟩, .inl ⟨[], rfl, hJ⟩⟩
     ·gi_wp2_with fail
      go_end0
      exact ⟨⟨_, rfl⟩, .inr hJx⟩
   ·gi_wp2_with fail
    refine bodyPost_ret (results_none rfl _ _ _) rfl ?_
    exact ⟨⟨_, rfl⟩, .inr (hJxs _ _ hJx (Below.refl _ _))⟩
  ·have hlz : ¬ (1 : Int) < (n : Int) := by omega
   have hld : decide ((1 : Int) < (n : Int)) = false := by simp; omega
   have HJ2' := Lib.hid (show J (if b3 then [] else [((3 : Int), (2 : Int))]) W2 by have h := HJ2.out; rw [if_neg hlt] at h; exact h)
   replace HJ2 := HJ2'
   clear HJ2'
   have u0_2 : W2.cell? ⟨bz, 0, none⟩ = some (.slice oo o.length co) := HZ2.out.zb.cell 0
   have u1_2 : W2.cell? ⟨bz, 1, none⟩ = some (.slice ov l.length cv) := HZ2.out.zb.cell 1
   have HHA := Lib.hid (zHas_any (w0 := W2) (.slice oo o.length co) (.slice ov l.length cv) (.slice oo o.length co) l o 2 HZ2.out.below HZ2.out.rd na (HO.out.below HZ2.out.below) NO.out)
   gi_wp2_with fail
   refine (callsIn_wide.2 HHA.out).mono ?_
   rintro e W3 ⟨rfl, hb⟩
   rw [HH3.out]
   have HJ3 := Lib.hid (hJs _ _ _ HJ2.out hb)
   clear hb HHA u0_2 u1_2 HJ2
   cases b3 with
   | true =>
    gi_wp2_with fail
    go_end0
    exact ⟨⟨_, rfl⟩, .inl ⟨[], rfl, HJ3.out⟩⟩
   | false =>
    obtain ⟨fnW8, tmpsW8, assignW8, bodyW8, hyW8, hRW8⟩ := hY _ [] _ W3 HJ3.out ⟨3, 2, rfl, rfl⟩
    gi_wp2_with fail
    refine hRW8.mono ?_
    clear hRW8 hyW8
    rintro ew W8 (⟨rfl, hJ, hk⟩ | ⟨rfl, hJx⟩)
    ·gi_wp2_with fail
     go_end0
     exact ⟨⟨_, rfl⟩, .inl ⟨[], rfl, hJ⟩⟩
    ·gi_wp2_with fail
     go_end0
     exact ⟨⟨_, rfl⟩, .inr hJx⟩
end
end Go.Proofs.YtneghhbclefmoaaGreat
end
section
namespace Go.Proofs.YtneghhbclefmoaaGreat
open Go.RowKit Go.Shelf Go.Sort
set_option maxRecDepth 100000
attribute [local go_sem] Oper.semAt_some
theorem zKp.refl {w : World} (Sk : Nat -> Prop) (L : Nat) (A : World) : zKp w Sk L A A := ⟨keepH.refl _ _, id, fun _ _ _ _ h => h, Nat.le_refl _⟩
def ElF.up {w w' : World} (hb : Below w.heap.size w w') (x : ElF w) : ElF w' := ⟨x.1, x.2.1.below hb, x.2.2⟩
theorem upF_enc {w w' : World} (hb : Below w.heap.size w w') (l : List (ElF w)) : (l.map (ElF.up hb)).map encF = l.map encF := by rw [List.map_map]; rfl
theorem upF_pl {w w' : World} (hb : Below w.heap.size w w') (l : List (ElF w)) : plF (l.map (ElF.up hb)) = plF l := by unfold plF; rw [List.map_map]; rfl
def NoFl (b : Nat) (W W' : World) : Prop := ∀ (k : Nat) (c : Array Value) (t : TypeId) (f : Nat × Nat), k ≠ b -> t ≠ 94 -> W.heap[k]? = some (Obj.cells c t f) -> W'.heap[k]? = some (Obj.cells c t f)
theorem NoFl.refl (b : Nat) (W : World) : NoFl b W W := fun _ _ _ _ _ _ h => h
theorem NoFl.trans {b : Nat} {A B C : World} (h : NoFl b A B) (k : NoFl b B C) : NoFl b A C := fun i c t f hi ht x => k i c t f hi ht (h i c t f hi ht x)
theorem NoFl.below {b : Nat} {W W' : World} (h : Below W.heap.size W W') : NoFl b W W' := fun k _ _ _ _ _ x => (h.block k (Array.getElem?_eq_some_iff.1 x).1).trans x
theorem NoFl.row {b : Nat} {W W' : World} (h : NoFl b W W') {R : Nat -> Prop} {e : TypeId} {sz n : Nat} {v : Value} {xs : List Value} (hr : Row R e sz v n xs W) (hne : e ≠ 94) (hb : ¬ R b) : Row R e sz v n xs W' :=
 hr.kept fun g c t f hv hg => by
  obtain ⟨c', f', h1⟩ := hr.typ hv
  rw [hg] at h1
  cases h1
  exact h g _ _ _ (fun e => hb (e ▸ hr.2 g hv)) hne hg
section
variable {w : World}
structure ZoM (zo vr : Value) (lf : List (ElF w)) (W : World) : Prop where
 zb : Blk w.heap.size #[zo, vr] 29 W
 ob : ∃ o cap, Box (w.heap.size + 1) 79 (.slice o lf.length cap) W /\ Row (fun g => w.heap.size + 3 <= g) 94 3 (.slice o lf.length cap) lf.length (lf.map encF).flatten W
 below : Below w.heap.size w W
 size : w.heap.size + 3 <= W.heap.size
theorem ZoM.on {zo vr : Value} {lf : List (ElF w)} {A W : World} (h : ZoM zo vr lf A) (hb : Below A.heap.size A W) : ZoM zo vr lf W := by
 obtain ⟨o, cap, h1, h2⟩ := h.ob
 exact ⟨h.zb.below hb, ⟨o, cap, h1.below hb, h2.below hb⟩, below5 h.below hb, Nat.le_trans h.size hb.size⟩
theorem ZoM.put {zo vr : Value} {lf : List (ElF w)} {A : World} (h : ZoM zo vr lf A) {L : Nat} {r : Loop} (hr : A.heap[L]? = some (.loop r)) (hL : w.heap.size <= L) (o : Obj) : ZoM zo vr lf (A.putObj L o) := by
 obtain ⟨a, cap, h1, h2⟩ := h.ob
 exact ⟨h.zb.put hr o, ⟨a, cap, h1.put hr o, h2.put hr o⟩, below_put h.below hL hr h.below.size o, by have := h.size; simpa using this⟩
theorem ZoM.push {zo vr : Value} {lf : List (ElF w)} {W Wq w10 : World} (h : ZoM zo vr lf W) (x : ElF w) (hba : Below W.heap.size W Wq) {v v10 : Value} (hbx : Box (w.heap.size + 1) 79 v Wq) (hrow : Row (fun g => w.heap.size + 3 <= g) 94 3 v lf.length (lf.map encF).flatten Wq) (hrow10 : Row (fun g => w.heap.size + 3 <= g) 94 3 v10 (lf.length + 1) (lf.map encF ++ [encF x]).flatten w10) (hgr10 : Wq.grownBy w10 v.ownBlock) :
  ZoM zo vr (lf ++ [x]) (w10.setCell ⟨w.heap.size + 1, 0, none⟩ v10) /\ NoFl (w.heap.size + 1) W (w10.setCell ⟨w.heap.size + 1, 0, none⟩ v10) /\ KeepsOthers W (w10.setCell ⟨w.heap.size + 1, 0, none⟩ v10) /\ W.heap.size <= (w10.setCell ⟨w.heap.size + 1, 0, none⟩ v10).heap.size /\ (∀ b, b < w.heap.size + 3 -> b ≠ w.heap.size + 1 -> (w10.setCell ⟨w.heap.size + 1, 0, none⟩ v10).heap[b]? = W.heap[b]?) /\ (Below w.heap.size w W -> Below w.heap.size w (w10.setCell ⟨w.heap.size + 1, 0, none⟩ v10)) := by
 have hown : ∀ g, v.ownBlock = some g -> w.heap.size + 3 <= g := fun g hg => hrow.2 g hg
 have hsz := h.size
 have hbs := hba.size
 have hbx10 : Box (w.heap.size + 1) 79 v w10 := (hgr10.block _ hbx.lt (fun e => by have := hown _ e.symm; omega)).trans hbx
 have hblk : ∀ b, b < w.heap.size + 3 -> b ≠ w.heap.size + 1 -> (w10.setCell ⟨w.heap.size + 1, 0, none⟩ v10).heap[b]? = W.heap[b]? := fun b hb hne =>
  (Below.heap_setCell _ _ _ _ hne).trans ((hgr10.block b (by omega) (fun e => by have := hown b e.symm; omega)).trans (hba.block b (by omega)))
 have hbel : Below w.heap.size w W -> Below w.heap.size w (w10.setCell ⟨w.heap.size + 1, 0, none⟩ v10) := fun hw =>
  Below.setCell (p := ⟨w.heap.size + 1, 0, none⟩) ((below5 hw hba).grown hgr10 (below5 hw hba).size (fun g hg => by have := hown g hg; omega)) (by simp) _
 obtain ⟨a10, c10, e10⟩ := hrow10.form
 subst e10
 have hs10 : W.heap.size <= (w10.setCell ⟨w.heap.size + 1, 0, none⟩ (.slice a10 (lf.length + 1) c10)).heap.size := by
  have := hgr10.size
  simp [World.setCell]; omega
 refine ⟨⟨?_, ?_, hbel h.below, by omega⟩, ?_, ?_, hs10, hblk, hbel⟩
 ·exact (hblk w.heap.size (by omega) (by omega)).trans h.zb
 ·refine ⟨a10, c10, ?_, ?_⟩
  ·rw [List.length_append]; exact hbx10.set _
  ·rw [List.length_append, List.map_append]
   exact Row.setOther hrow10 (by omega) _
 ·intro k c t f hk ht hh
  have hl := (Array.getElem?_eq_some_iff.1 hh).1
  refine (Below.heap_setCell _ _ _ _ hk).trans ?_
  refine (hgr10.block k (by omega) (fun e => ?_)).trans ((hba.block k hl).trans hh)
  obtain ⟨c', f', h1⟩ := hrow.typ e.symm
  rw [hba.block k hl, hh] at h1
  cases h1; exact ht rfl
 ·exact (below_keepsOthers hba).trans ((hrow.keepsOthers hgr10).trans (KeepsOthers.setCell _ _ _))
theorem apexL_len (o : Zn.Nam) (L : List Rc.PRec) : (Ck.apexL o L).length <= 3 := by
 have h1 : (if (Rs.mine L o 6).isEmpty then [((1 : Int), (6 : Int))] else []).length <= 1 := by split <;> simp
 have h2 : (if 1 < (Rs.datOf (Rs.mine L o 6)).length then [((2 : Int), (6 : Int))] else []).length <= 1 := by split <;> simp
 have h3 : (if Zn.has L o 2 then [] else [((3 : Int), (2 : Int))]).length <= 1 := by split <;> simp
 unfold Ck.apexL
 rw [List.length_append, List.length_append]
 omega
def CkZR (o : Zn.Nam) (L : List Rc.PRec) (w0 : World) (e : Ending) (w' : World) : Prop :=
 ∃ (v : Value) (lf : List (ElF w0)), e = .returned v /\ GRd 3 v (lf.map encF) w' /\ Ck.Of (plF lf) (Ck.raw o L) /\ lf.length <= 1000 /\ Below w0.heap.size w0 w'
theorem downF {w' : World} (hb : Below w.heap.size w w') (lf : List (ElF w)) : ∀ l5 : List (ElF w'), (∀ x ∈ l5, x ∈ lf.map (ElF.up hb)) -> ∃ l6 : List (ElF w), l6.map encF = l5.map encF /\ plF l6 = plF l5 /\ l6.length = l5.length
 | [], _ => ⟨[], rfl, rfl, rfl⟩
 | x :: l5, h => by
  obtain ⟨l6, h1, h2, h3⟩ := downF hb lf l5 (fun y hy => h y (List.mem_cons_of_mem _ hy))
  obtain ⟨y, _, rfl⟩ := List.mem_map.1 (h x List.mem_cons_self)
  refine ⟨y :: l6, ?_, ?_, by rw [List.length_cons, List.length_cons, h3]⟩
  ·rw [List.map_cons, List.map_cons, h1]; rfl
  ·show y.1.2 :: plF l6 = _ :: plF l5
   rw [h2]; rfl
end
end Go.Proofs.YtneghhbclefmoaaGreat
end
section
namespace Go.Proofs.YtneghhbclefmoaaGreat
open Go.RowKit Go.Shelf Go.Sort
set_option maxRecDepth 100000
attribute [local go_sem] Oper.semAt_some
section
variable {w : World}
theorem Ck.Of.plain {w : World} {l l' : List (ElF w)} (h : plF l' = Ck.few (plF (Srt.srt (Fl.ltC cfF) l))) : Ck.Of (plF l') (plF l) := by
 rw [h]; exact Ck.few_srt l
set_option maxHeartbeats 8000000 in
theorem ckZone_any (zo vr : Value) (l : List (El w)) (o : List (List UInt8)) (hv : RecsRd vr (l.map (·.1)) w) (na : l.length <= 100) (ho : Rd zo o w) (no : NB o) :
  Calls Tryz.prog 41 #[.agg #[zo, vr]] w (CkZR o (plE l) w) := by
 obtain ⟨oo, co, rfl, _, _⟩ := ho.form
 obtain ⟨ov, cv, rfl⟩ : ∃ o cap, vr = .slice o l.length cap := by obtain ⟨_, o, cap, h, _⟩ := hv; exact ⟨o, cap, by rw [h, List.length_map]⟩
 obtain ⟨W2, hW2⟩ : ∃ W2, (w.alloc (.cells #[.slice oo o.length co, .slice ov l.length cv] 29)).alloc (.cells #[.slice none 0 0] 79) = W2 := ⟨_, rfl⟩
 have hb2 : Below w.heap.size w W2 := by subst hW2; exact ((Below.refl _ _).alloc (Nat.le_refl _) _).alloc (by simp) _
 have k0 : Blk w.heap.size #[.slice oo o.length co, .slice ov l.length cv] 29 W2 := by subst hW2; exact (Blk.new w _ _).alloc _
 have k1 : Box (w.heap.size + 1) 79 (.slice none 0 0) W2 := by
  subst hW2
  have := Box.new (w.alloc (.cells #[.slice oo o.length co, .slice ov l.length cv] 29)) 79 (.slice none 0 0)
  rwa [World.size_alloc] at this
 have s2 : W2.heap.size = w.heap.size + 2 := by subst hW2; simp
 have c00 : W2.cell? ⟨w.heap.size, 0, none⟩ = some _ := k0.cell 0
 have c01 : W2.cell? ⟨w.heap.size, 1, none⟩ = some _ := k0.cell 1
 have HV := Lib.hid hv
 have HO := Lib.hid ho
 have NO := Lib.hid no
 have HB2 := Lib.hid hb2
 have K0 := Lib.hid k0
 have K1 := Lib.hid k1
 have S2 := Lib.hid s2
 clear hv ho no hb2 k0 k1 s2
 refine (callsIn_wide (n := 0)).1 ?_
 refine callsIn_of_wp_marks Tryz.func41 rfl trivial ?_ rfl
 simp only [Tryz.ntmps41, List.size_toArray, List.length_cons, List.length_nil, Nat.reduceAdd, Nat.reduceSub, Array.replicate_succ, Array.replicate_zero, List.push_toArray, List.append_toArray, List.nil_append, List.cons_append]
 gi_wp2_with (gi_at_call 85; refine (callsIn_wide.2 (apexCall_any _ _ _)).mono ?_; rintro e ws ⟨rfl, hws⟩)
 have hbs : Below W2.heap.size W2 ws := by rw [<- hws]; exact (Below.refl _ _).alloc (Nat.le_refl _) _
 have hss : ws.heap.size = w.heap.size + 3 := by rw [<- hws]; simp; exact S2.out
 have hZs : Blk (w.heap.size + 2) #[.slice oo o.length co, .slice ov l.length cv] 29 ws := by
  rw [<- hws]; have := Blk.new W2 #[.slice oo o.length co, .slice ov l.length cv] 29; rwa [S2.out] at this
 have hMs : ZoM (w := w) (.slice oo o.length co) (.slice ov l.length cv) [] ws := ⟨K0.out.below hbs, ⟨none, 0, K1.out.below hbs, Row.nil _ _ _ _⟩, below5 HB2.out hbs, by omega⟩
 have hAt : ∀ W', Below ws.heap.size ws W' -> ws.heap.size + 1 < W'.heap.size -> ZAt (fun b => b < w.heap.size + 3 /\ b ≠ w.heap.size + 1) (ws.heap.size + 1) (w.heap.size + 2) (.slice oo o.length co) (.slice ov l.length cv) l W' := fun W' hbn hlt => by
  refine ⟨hZs.below hbn, HV.out.kept (below5 (below5 HB2.out hbs) hbn), fun o' n c e a ha hp => ?_, below5 (below5 HB2.out hbs) hbn, hlt⟩
  obtain ⟨_, o2, c2, e1, _, _, _, e5⟩ := HV.out
  rw [e] at e1
  cases e1
  obtain ⟨a2, ha2, hc2⟩ := e5 0 (by rw [encP_map, flat_len encE 7 encE_len]; omega)
  rw [ha] at ha2; cases ha2
  have := cell_lt hc2
  rw [add_block] at this
  exact ⟨by omega, by omega⟩
 have HAT := Lib.hid hAt
 have HS := Lib.hid hss
 have HMS := Lib.hid hMs
 have HZS := Lib.hid hZs
 have e22 : W2.heap.size = w.heap.size + 2 := S2.out
 rw [e22]
 clear hW2 hws hbs hZs hMs hAt c00 c01 K0 K1 S2
 refine rf_outer rfl (enters_of Tryz.func126 (by kernel_rfl) rfl) (apex1_iter (fun b => b < w.heap.size + 3 /\ b ≠ w.heap.size + 1) (ws.heap.size + 1) (w.heap.size + 2) (by constructor <;> omega) (.slice oo o.length co) (.slice ov l.length cv) l o (by omega) HO.out NO.out)
  (fun A B h => below_keepsOthers h) (fun A B C h k => zKp.trans h k) (fun A ob => zKp.put (by omega) (by omega) A ob)
  (fun _ _ _ _ h => by obtain ⟨_, _, _, h⟩ := h; subst h; rfl)
  (fun k W => ∃ lf : List (ElF w), Hid (plF lf ++ k.map (fun p : Int × Int => (⟨p.1, o, p.2⟩ : PFl)) = Ck.apexF o (plE l)) /\ lf.length + k.length <= 3 /\ ZoM (.slice oo o.length co) (.slice ov l.length cv) lf W) (fun _ _ => False)
  (fun _ _ _ h e => by obtain ⟨lf, h1, h2, h3⟩ := h; exact ⟨lf, h1, h2, h3.on e⟩) (fun _ _ _ h e => h)
  (fun _ A r ob h hr => by obtain ⟨lf, h1, h2, h3⟩ := h; exact ⟨lf, h1, h2, h3.put hr (by omega) ob⟩) (fun _ A r ob h hr => h)
  (fun r => ⟨[], rfl, by have := apexL_len o (plE l); simpa using this, ?start⟩) (fun r => ?pre) ?round ?done (fun _ _ h => h.elim)
 case start => exact HMS.out.on (((Below.refl _ _).alloc (Nat.le_refl _) _).alloc (by simp) _)
 case pre => exact HAT.out _ (((Below.refl _ _).alloc (Nat.le_refl _) _).alloc (by simp) _) (by simp)
 case round =>
  rintro lp k k' v W ⟨lf, hlf, hll, hM⟩ ⟨ka, kb, rfl, rfl⟩
  gi_wp2
  refine rfNext_same (zKp.refl _ _ _) ⟨lf, hlf, hll, hM⟩ (fun _ _ _ _ h hr => by obtain ⟨lf, h1, h2, h3⟩ := h; exact ⟨lf, h1, h2, h3.put hr (by omega) _⟩) ?_
  clear hlf hll hM lf
  rintro W r rfl hr ⟨lf, hlf, hll, hM⟩
  obtain ⟨ob, cb, hbx, hrow⟩ := id hM.ob
  obtain ⟨ll, hln⟩ : ∃ n, lf.length = n := ⟨_, rfl⟩
  obtain ⟨x, hx⟩ : ∃ x : ElF w, x = ⟨([.int .i64 ka, .slice oo o.length co, .int .i64 kb], ⟨ka, o, kb⟩), ⟨_, rfl, HO.out⟩, NO.out⟩ := ⟨_, rfl⟩
  have hxe : encF x = [.int .i64 ka, .slice oo o.length co, .int .i64 kb] := by rw [hx]; rfl
  have hxp : x.1.2 = ⟨ka, o, kb⟩ := by rw [hx]
  obtain ⟨Wq, hWq⟩ : ∃ Wq, W.alloc (.cells #[.int .i64 ka, .slice oo o.length co, .int .i64 kb] 94) = Wq := ⟨_, rfl⟩
  have HQB : Hid (Below W.heap.size W Wq) := by show Below _ _ _; rw [<- hWq]; exact (Below.refl _ _).alloc (Nat.le_refl _) _
  have HQG : Hid (GRd 3 (.slice (some ⟨W.heap.size, 0, none⟩) 1 1) [encF x] Wq) := by
   show GRd _ _ _ _
   rw [<- hWq, hxe]
   exact GRd.new [.int .i64 ka, .slice oo o.length co, .int .i64 kb] rfl (by simp [Value.oneCell']) W 94
  have HQX : Hid (Box (w.heap.size + 1) 79 (.slice ob ll cb) Wq) := by rw [<- hln]; exact hbx.below HQB.out
  have HQR : Hid (Row (fun g => w.heap.size + 3 <= g) 94 3 (.slice ob ll cb) ll (lf.map encF).flatten Wq) := by rw [<- hln]; exact hrow.below HQB.out
  have HQS : Hid (w.heap.size + 3 <= Wq.heap.size) := by have h1 := HQB.out.size; have h2 := hM.size; show _ <= _; omega
  have c0 : W.cell? ⟨w.heap.size, 0, none⟩ = some _ := hM.zb.cell 0
  have c1 : W.cell? ⟨w.heap.size + 1, 0, none⟩ = some (.slice ob ll cb) := by rw [<- hln]; exact hbx.cell
  have c2 : Wq.cell? ⟨w.heap.size + 1, 0, none⟩ = some (.slice ob ll cb) := HQX.out.cell
  have c3 := HQX.out.frozen
  have HM := Lib.hid hM
  have HLF := Lib.hid hlf
  have HX := Lib.hid hx
  have HXP := Lib.hid hxp
  have HLN := Lib.hid hln
  have hl3 : ll <= 3 := by omega
  have HLL := Lib.hid hll
  have HWQ := Lib.hid hWq
  clear hM hlf hx hxe hxp hWq hbx hrow hln hll hr
  gi_wp2_with (gi_at_builtin; rw [HWQ.out]; refine append_g (fun g => w.heap.size + 3 <= g) 94 _ 3 40 info_flaw rfl (by decide) rfl _ _ _ Tryz.underlying79 rfl _ ll (lf.map encF) (by rfl) HQR.out _ [encF x] (by rfl) HQG.out (by simp; omega) (by omega) HQS.out ?_; intro v10 w10 hrow10 hgr10; obtain ⟨a10, c10, e10⟩ := hrow10.form; subst e10; have HR10 := Lib.hid hrow10; have HG10 := Lib.hid hgr10; have hbx10 : Box (w.heap.size + 1) 79 (.slice ob ll cb) w10 := (hgr10.block _ HQX.out.lt (fun e => by have := HQR.out.2 _ e.symm; omega)).trans HQX.out; have y0 := hbx10.cell; have y1 := hbx10.frozen; clear hbx10 hrow10 hgr10 c0 c1 c2 c3)
  have hP := HM.out.push x HQB.out HQX.out (by rw [HLN.out]; exact HQR.out) (by rw [HLN.out]; exact HR10.out) HG10.out
  obtain ⟨p1, p2, p3, p4, p5, p6⟩ := hP
  refine ⟨p3, ⟨fun b hb => p5 b hb.1 hb.2, p6, fun k c f hk hh => p2 k c _ f (by omega) (by decide) hh, p4⟩, lf ++ [x], ?_, ?_, p1⟩
  ·have h1 := HLF.out.out
   show plF (lf ++ [x]) ++ _ = _
   rw [plF_snoc, HXP.out, <- h1]; simp
  ·have := HLL.out
   have h2 := HLN.out
   simp only [List.length_append, List.length_cons, List.length_nil] at this ⊢
   omega
 case done =>
  rintro k W rfl ⟨lf0, hlf, hll, hM⟩ hKd
  have hap : plF lf0 = Ck.apexF o (plE l) := by have := hlf.out; simpa using this
  have HST := Lib.hid (rsets2_any (w0 := W) (.slice ov l.length cv) l hM.below (HV.out.kept hM.below) (by omega))
  have c0 : W.cell? ⟨w.heap.size, 0, none⟩ = some _ := hM.zb.cell 0
  have c1 : W.cell? ⟨w.heap.size, 1, none⟩ = some _ := hM.zb.cell 1
  have HM := Lib.hid hM
  have HAP := Lib.hid hap
  have HL3 := Lib.hid (show lf0.length <= 3 by simpa using hll)
  have HKD := Lib.hid hKd
  clear hM hap hll hlf hKd HMS HAT HZS
  gi_wp2_with fail
  refine (callsIn_wide.2 HST.out).mono ?_
  rintro e W1 ⟨c, os, ns, cs, hc, hcl, rfl, hsr, hty, hb1⟩
  obtain ⟨os', cs', e0, hs1, hs2⟩ := hsr.form
  cases e0
  have HC := Lib.hid hc
  have HSR := Lib.hid hsr
  have HTY := Lib.hid hty
  have HM1 := Lib.hid (HM.out.on hb1)
  have hKd1 : W1.heap[ws.heap.size]? = some (.deferred (some [])) := (below_keepsOthers hb1).same _ _ HKD.out rfl
  have HKD1 := Lib.hid hKd1
  have hgl := grp_len c
  have hgz : ((grp c).length : Int) <= 100 := by omega
  have hg100 : (grp c).length <= 100 := by omega
  have hgk : ∀ k ∈ grp c, k.length <= 100 := fun k hk => by have := grp_mem_bound hk; omega
  have HGK := Lib.hid hgk
  have hG : (grp c).map plE = Rs.G (plE l) := by rw [plE_grp, hc]
  have HG := Lib.hid hG
  clear hc hsr hty hb1 hKd1 hgl hgk hG c0 c1 HST
  gi_wp2_with fail
  gi_loopw [26] (fun vi Wr => ∃ (i : Nat) (lf : List (ElF w)), vi = .int .i64 i /\ i <= (grp c).length /\ Hid (plF lf ++ ((Rs.G (plE l)).drop i).flatMap (Ck.ofG o (plE l)) = Ck.raw o (plE l)) /\ Hid (lf.length <= 3 + 6 * i) /\ Hid (ZoM (.slice oo o.length co) (.slice ov l.length cv) lf Wr) /\ Hid (NoFl (w.heap.size + 1) W1 Wr) /\ Hid (KeepsOthers W1 Wr)) (fun vi _ => (grp c).length - (intOf vi).toNat)
  case atStart =>
   refine ⟨0, lf0, rfl, Nat.zero_le _, ?_, Lib.hid (by have := HL3.out; omega), HM1, Lib.hid (NoFl.refl _ _), Lib.hid (KeepsOthers.refl _)⟩
   show plF lf0 ++ _ = _
   rw [HAP.out, List.drop_zero]; rfl
  case round =>
   obtain ⟨i, lf, rfl, hi, HLF, HLN, HMR, HNF, HKO⟩ := hrel
   by_cases hlt : i < (grp c).length
   case neg =>
    have hlz : ¬ ((i : Int) < ((grp c).length : Int)) := by omega
    obtain ⟨ob, cb, hbx, hrow⟩ := HMR.out.ob
    have hln : lf.length <= 1000 := by have := HLN.out; omega
    have c1 : wr.cell? ⟨w.heap.size + 1, 0, none⟩ = some _ := hbx.cell
    have hgr : GRd 3 (.slice ob lf.length cb) ((lf.map (ElF.up HMR.out.below)).map encF) wr := by
     rw [upF_enc]
     refine Row.grd (by rw [List.length_map]; exact hrow) (fun x hx => ?_)
     obtain ⟨y, _, rfl⟩ := List.mem_map.1 hx
     exact ⟨encF_len y, encF_one y⟩
    have HFW := Lib.hid (ckFewX_any _ _ hgr (by rw [List.length_map]; exact hln))
    have hpl : plF lf = Ck.raw o (plE l) := by
     have h1 := HLF.out
     have h2 : (Rs.G (plE l)).drop i = [] := by
      rw [<- HG.out]; exact List.drop_of_length_le (by rw [List.length_map]; omega)
     rw [h2] at h1
     simpa using h1
    have HPL := Lib.hid hpl
    have HLN2 := Lib.hid hln
    clear hpl hgr hbx hrow hln
    gi_wp2_with fail
    refine (callsIn_wide.2 HFW.out).mono ?_
    rintro e W5 ⟨v5, l5, rfl, g5, p5, n5, m5, b5⟩
    rw [List.length_map] at n5
    have HCLP := Lib.hid (clipFl_any v5 l5 W5 g5 (by have := HLN2.out; omega))
    have HP5 := Lib.hid p5
    have HN5 := Lib.hid n5
    have HB5 := Lib.hid b5
    have HM5 := Lib.hid m5
    clear g5 p5 m5 b5 HFW n5 c1
    gi_wp2_with fail
    refine (callsIn_wide.2 HCLP.out).mono ?_
    rintro e W6 ⟨v6, rfl, g6, rfl⟩
    have HG6 := Lib.hid g6
    clear g6
    gi_wp2_with fail
    have hK5 : W6.heap[ws.heap.size]? = some (.deferred (some [])) := (below_keepsOthers HB5.out).same _ _ (HKO.out.same _ _ HKD1.out rfl) rfl
    rw [hss] at hK5
    refine leaveD rfl hK5 (results_tmp rfl _ _ _) ?_
    obtain ⟨l6, d1, d2, d3⟩ := downF HMR.out.below lf l5 HM5.out
    refine ⟨v6, l6, rfl, by rw [d1]; exact HG6.out.cells_kept (CellsKept.putD hK5 (.deferred none)), ?_, by have := HN5.out; have := HLN2.out; omega, below_putD (below5 HMR.out.below HB5.out) (by omega) (below5 HMR.out.below HB5.out).size _⟩
    have h1 := Ck.Of.plain HP5.out
    rw [upF_pl, HPL.out] at h1
    rw [d2]; exact h1
   case pos =>
    obtain ⟨wo, rfl⟩ : ∃ wo, wo = wr := ⟨_, rfl⟩
    have hlz : (i : Int) < ((grp c).length : Int) := by omega
    obtain ⟨ga, rfl, x, xs, po, no', qo, od, cd, e1, e3, e4, e5⟩ := HSR.out.at i hlt
    obtain ⟨e, he⟩ : ∃ e, ga.add (i * 4) = e := ⟨_, rfl⟩
    have hgb : wo.heap[ga.block]? = W1.heap[ga.block]? := by
     obtain ⟨c0, f0, hb0⟩ := HTY.out ga rfl
     obtain ⟨_, _, hbx, _⟩ := HM1.out.ob
     rw [hb0]
     refine HNF.out _ _ _ _ (fun e => ?_) (by decide) hb0
     unfold Box at hbx
     rw [e, hbx] at hb0
     cases hb0
    obtain ⟨q0, q1, q2, q3⟩ := e5 W1 (Below.refl _ _)
    rw [he] at q0 q1 q2 q3
    have heb : e.block = ga.block := by rw [<- he]; exact add_block _ _
    obtain ⟨n, hn⟩ : ∃ n, (grp c)[i].length = n := ⟨_, rfl⟩
    obtain ⟨tt, htt⟩ : ∃ tt, Rs.ttl x.1.2 (plE (grp c)[i]) = tt := ⟨_, rfl⟩
    have hn100 : n <= 100 := by rw [<- hn]; exact HGK.out _ (List.getElem_mem _)
    rw [hn] at q3
    rw [htt] at q2
    have r0 : wo.cell? e = some (.slice po no' qo) := (World.cell?_of_block (by rw [heb]; exact hgb)).trans q0
    have r1 : wo.cell? ⟨e.block, e.off + 1, none⟩ = some (.int .i64 x.1.2.type) := (World.cell?_of_block (by show wo.heap[e.block]? = _; rw [heb]; exact hgb)).trans q1
    have r2 : wo.cell? ⟨e.block, e.off + 2, none⟩ = some (.int .u32 (tt : Int)) := (World.cell?_of_block (by show wo.heap[e.block]? = _; rw [heb]; exact hgb)).trans q2
    have r3 : wo.cell? ⟨e.block, e.off + 3, none⟩ = some (.slice od n cd) := (World.cell?_of_block (by show wo.heap[e.block]? = _; rw [heb]; exact hgb)).trans q3
    obtain ⟨ks, hks⟩ : ∃ ks, Ck.kinds o (plE l) x.1.2.owner x.1.2.type n = ks := ⟨_, rfl⟩
    have hk6 : ks.length <= 6 := by rw [<- hks]; exact Ck.kinds_len _ _ _ _ _
    have HDR : Hid ((Rs.G (plE l)).drop i = plE (grp c)[i] :: (Rs.G (plE l)).drop (i + 1)) := by
     show _ = _
     rw [<- HG.out, List.drop_eq_getElem_cons (by rw [List.length_map]; exact hlt), List.getElem_map]
    have HOG : Hid (Ck.ofG o (plE l) (plE (grp c)[i]) = ks.map fun k => ⟨k, x.1.2.owner, x.1.2.type⟩) := by
     show _ = _
     rw [<- hks, <- hn, e1]
     show (Ck.kinds o (plE l) x.1.2.owner x.1.2.type (plE (x :: xs)).length).map _ = _
     rw [plE_len]
    obtain ⟨Wa, hWa⟩ : ∃ Wa, wo.alloc (.cells #[.slice po no' qo, .int .i64 x.1.2.type, .int .u32 (tt : Int), .slice od n cd] 116) = Wa := ⟨_, rfl⟩
    have hba : Below wo.heap.size wo Wa := by rw [<- hWa]; exact (Below.refl _ _).alloc (Nat.le_refl _) _
    have hka : Blk wo.heap.size #[.slice po no' qo, .int .i64 x.1.2.type, .int .u32 (tt : Int), .slice od n cd] 116 Wa := by rw [<- hWa]; exact Blk.new wo _ _
    have hMa := HMR.out.on hba
    have s0 : Wa.cell? ⟨wo.heap.size, 0, none⟩ = some _ := hka.cell 0
    have s1 : Wa.cell? ⟨wo.heap.size, 1, none⟩ = some _ := hka.cell 1
    have s2 : Wa.cell? ⟨wo.heap.size, 2, none⟩ = some _ := hka.cell 2
    have s3 : Wa.cell? ⟨wo.heap.size, 3, none⟩ = some _ := hka.cell 3
    have z0 : Wa.cell? ⟨w.heap.size, 0, none⟩ = some _ := hMa.zb.cell 0
    have z1 : Wa.cell? ⟨w.heap.size, 1, none⟩ = some _ := hMa.zb.cell 1
    have HOF := Lib.hid (ckOf_any (w0 := Wa) (.slice oo o.length co) (.slice ov l.length cv) l o x.1.2.owner po no' qo x.1.2.type tt od n cd hMa.below (HV.out.kept hMa.below) (by omega) (HO.out.below hMa.below) NO.out (e3.below hMa.below) x.2.2.owner (by omega))
    rw [hks] at HOF
    have HBA := Lib.hid hba
    have HKA := Lib.hid hka
    have HE3 := Lib.hid e3
    have HK6 := Lib.hid hk6
    have HMA := Lib.hid hMa
    clear q0 q1 q2 q3 heb hgb e4 e5 hn htt hba hka hMa e1 e3 hks hk6
    gi_wp2_with (gi_at_call 87; refine (callsIn_wide.2 HOF.out).mono ?_; rintro e9 W3 ⟨vk, rfl, rk, b3⟩)
    obtain ⟨ok, ck, rfl, hk1, hk2⟩ := Row.sl (by rw [List.length_map]; exact rk)
    rw [List.length_map] at rk hk1 ⊢
    obtain ⟨hk2, _, _⟩ := hk2
    unfold maxLen at hk2
    have HRK := Lib.hid rk
    have HM3 := Lib.hid (HMA.out.on b3)
    have HK3 := Lib.hid (HKA.out.below b3)
    have HNF3 : Hid (NoFl (w.heap.size + 1) W1 W3) := (HNF.out.trans (NoFl.below HBA.out)).trans (NoFl.below b3)
    have HKO3 : Hid (KeepsOthers W1 W3) := (HKO.out.trans (below_keepsOthers HBA.out)).trans (below_keepsOthers b3)
    have HSZ3 : Hid (w.heap.size + 3 <= wo.heap.size) := HMR.out.size
    have HSA : Hid (wo.heap.size <= Wa.heap.size) := HBA.out.size
    have hkz : (ks.length : Int) <= 6 := by have := HK6.out; omega
    have HLN' := HLN
    clear rk b3 HOF s0 s1 s2 s3 z0 z1 r0 r1 r2 r3 hWa he HNF HKO HMR
    gi_wp2_with fail
    simp [go_sem]
    gi_wp2_with fail
    gi_loopw [34] (fun vj Wj => ∃ (j : Nat) (lg : List (ElF w)), vj = .int .i64 j /\ j <= ks.length /\ Hid (plF lg = plF lf ++ (ks.take j).map fun k => ⟨k, x.1.2.owner, x.1.2.type⟩) /\ Hid (lg.length <= lf.length + j) /\ Hid (ZoM (.slice oo o.length co) (.slice ov l.length cv) lg Wj) /\ Hid (NoFl (w.heap.size + 1) W3 Wj) /\ Hid (KeepsOthers W3 Wj)) (fun vj _ => ks.length - (intOf vj).toNat)
    case atStart => exact ⟨0, lf, rfl, Nat.zero_le _, Lib.hid (by simp), Lib.hid (Nat.le_refl _), HM3, Lib.hid (NoFl.refl _ _), Lib.hid (KeepsOthers.refl _)⟩
    case round =>
     obtain ⟨j, lg, rfl, hj, HLG, HGN, HMG, HNG, HKG⟩ := hrel
     by_cases hjt : j < ks.length
     case neg =>
      have hjz : ¬ ((j : Int) < (ks.length : Int)) := by omega
      gi_wp2_with fail
      go_roundw
      case rel =>
       refine ⟨i + 1, lg, by go_num, hlt, ?_, ?_, HMG, Lib.hid (HNF3.out.trans HNG.out), Lib.hid (HKO3.out.trans HKG.out)⟩
       ·have h1 := HLF.out
        rw [HDR.out, List.flatMap_cons, HOG.out] at h1
        have h2 := HLG.out
        rw [List.take_of_length_le (by omega)] at h2
        show plF lg ++ _ = _
        rw [h2, List.append_assoc]; exact h1
       ·have := HLN.out; have := HGN.out; have := HK6.out
        show _ <= _
        omega
      case measure => simp [intOf]; omega
     case pos =>
      have hjz : (j : Int) < (ks.length : Int) := by omega
      have hrk : Sl (.slice ok ks.length ck) (ks.map I64) wr := by
       have h := HNG.out.row HRK.out (by decide) (by have := HSA.out; have := HSZ3.out; omega)
       exact Row.sl (by rw [List.length_map]; exact h)
      obtain ⟨a7, rfl, t7⟩ := hrk.cells _ (Below.refl _ _) j (by rw [List.length_map]; exact hjt)
      rw [List.getElem_map] at t7
      obtain ⟨kj, hkj⟩ : ∃ k, ks[j] = k := ⟨_, rfl⟩
      rw [hkj] at t7
      obtain ⟨e9, he9⟩ : ∃ q, a7.add j = q := ⟨_, rfl⟩
      rw [he9] at t7
      have t7' : wr.cell? e9 = some (.int .i64 kj) := t7
      obtain ⟨ob, cb, hbx, hrow⟩ := HMG.out.ob
      obtain ⟨ll, hll⟩ : ∃ n, lg.length = n := ⟨_, rfl⟩
      have hks2 : Blk wo.heap.size #[.slice po no' qo, .int .i64 x.1.2.type, .int .u32 (tt : Int), .slice od n cd] 116 wr := HNG.out _ _ _ _ (by have := HSZ3.out; omega) (by decide) HK3.out
      have s0 : wr.cell? ⟨wo.heap.size, 0, none⟩ = some _ := hks2.cell 0
      have s1 : wr.cell? ⟨wo.heap.size, 1, none⟩ = some _ := hks2.cell 1
      obtain ⟨y, hy⟩ : ∃ y : ElF w, y = ⟨([.int .i64 kj, .slice po no' qo, .int .i64 x.1.2.type], ⟨kj, x.1.2.owner, x.1.2.type⟩), ⟨_, rfl, HE3.out⟩, x.2.2.owner⟩ := ⟨_, rfl⟩
      have hye : encF y = [.int .i64 kj, .slice po no' qo, .int .i64 x.1.2.type] := by rw [hy]; rfl
      have hyp : y.1.2 = ⟨kj, x.1.2.owner, x.1.2.type⟩ := by rw [hy]
      obtain ⟨Wq, hWq⟩ : ∃ Wq, wr.alloc (.cells #[.int .i64 kj, .slice po no' qo, .int .i64 x.1.2.type] 94) = Wq := ⟨_, rfl⟩
      have HQB : Hid (Below wr.heap.size wr Wq) := by show Below _ _ _; rw [<- hWq]; exact (Below.refl _ _).alloc (Nat.le_refl _) _
      have HQG : Hid (GRd 3 (.slice (some ⟨wr.heap.size, 0, none⟩) 1 1) [encF y] Wq) := by
       show GRd _ _ _ _
       rw [<- hWq, hye]
       exact GRd.new [.int .i64 kj, .slice po no' qo, .int .i64 x.1.2.type] rfl (by simp [Value.oneCell']) wr 94
      have HQX : Hid (Box (w.heap.size + 1) 79 (.slice ob ll cb) Wq) := by rw [<- hll]; exact hbx.below HQB.out
      have HQR : Hid (Row (fun g => w.heap.size + 3 <= g) 94 3 (.slice ob ll cb) ll (lg.map encF).flatten Wq) := by rw [<- hll]; exact hrow.below HQB.out
      have HQS : Hid (w.heap.size + 3 <= Wq.heap.size) := by have h1 := HQB.out.size; have h2 := HMG.out.size; show _ <= _; omega
      have c1 : wr.cell? ⟨w.heap.size + 1, 0, none⟩ = some (.slice ob ll cb) := by rw [<- hll]; exact hbx.cell
      have HYP := Lib.hid hyp
      have HLN9 := Lib.hid hll
      have hl9 : ll <= 1000 := by have := HGN.out; have := HLN.out; have := HK6.out; omega
      have HKJ : Hid (ks.take (j + 1) = ks.take j ++ [kj]) := by show _ = _; rw [List.take_succ_eq_append_getElem hjt, hkj]
      have HWQ := Lib.hid hWq
      clear t7 hkj hy hye hyp hWq hbx hrow hll hrk hks2
      gi_wp2_with (gi_at_builtin; rw [HWQ.out]; refine append_g (fun g => w.heap.size + 3 <= g) 94 _ 3 40 info_flaw rfl (by decide) rfl _ _ _ Tryz.underlying79 rfl _ ll (lg.map encF) (by rfl) HQR.out _ [encF y] (by rfl) HQG.out (by simp; omega) (by omega) HQS.out ?_; intro v10 w10 hrow10 hgr10; obtain ⟨a10, c10, e10⟩ := hrow10.form; subst e10; have HR10 := Lib.hid hrow10; have HG10 := Lib.hid hgr10; have hbx10 : Box (w.heap.size + 1) 79 (.slice ob ll cb) w10 := (hgr10.block _ HQX.out.lt (fun e => by have := HQR.out.2 _ e.symm; omega)).trans HQX.out; have y0 := hbx10.cell; have y1 := hbx10.frozen; clear hbx10 hrow10 hgr10 c1 t7' s0 s1)
      obtain ⟨p1, p2, p3, p4, p5, p6⟩ := HMG.out.push y HQB.out HQX.out (by rw [HLN9.out]; exact HQR.out) (by rw [HLN9.out]; exact HR10.out) HG10.out
      have P1 := Lib.hid p1
      have P2 := Lib.hid p2
      have P3 := Lib.hid p3
      clear p1 p2 p3 p4 p5 p6
      go_roundw
      case rel =>
       refine ⟨j + 1, lg ++ [y], by go_num, hjt, ?_, ?_, P1, Lib.hid (HNG.out.trans P2.out), Lib.hid (HKG.out.trans P3.out)⟩
       ·show plF (lg ++ [y]) = _
        rw [plF_snoc, HYP.out, HLG.out, HKJ.out, List.map_append, List.append_assoc]; rfl
       ·have := HGN.out
        show (lg ++ [y]).length <= _
        rw [List.length_append, List.length_cons, List.length_nil]; omega
      case measure => simp [intOf]; omega
end
end Go.Proofs.YtneghhbclefmoaaGreat
end
