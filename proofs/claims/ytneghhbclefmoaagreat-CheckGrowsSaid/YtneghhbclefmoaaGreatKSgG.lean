/- The document's Of: the set of an owner and a type. -/
import Derived.Test.YtneghhbclefmoaaGreatKSgD
import Derived.Test.YtneghhbclefmoaaGreatKSfA
import Derived.Test.YtneghhbclefmoaaGreatKReg
section
namespace Go.Proofs.YtneghhbclefmoaaGreat
open Go.RowKit Go.Shelf Go.Sort
set_option maxRecDepth 100000
def hasKey {w : World} (o : List (List UInt8)) (t : Int) : List (El w) -> Bool
 | [] => false
 | x :: _ => (x.1.2.type == t) && Nm.same x.1.2.owner o
theorem find_at {α : Type} {p : α -> Bool} : ∀ {ks : List α} {i : Nat} (hi : i < ks.length), (∀ j (h : j < ks.length), j < i -> p ks[j] = false) -> p ks[i] = true -> ks.find? p = some ks[i]
 | x :: ks, 0, _, _, hp => by
  have h0 : p x = true := hp
  rw [List.find?_cons, h0]; rfl
 | x :: ks, i + 1, hi, h, hp => by
  have h0 : p x = false := h 0 (by simp) (by omega)
  rw [List.find?_cons, h0]
  exact find_at (by simpa using hi) (fun j hj hji => h (j + 1) (by simpa using hj) (by omega)) (by simpa using hp)
theorem find_none {α : Type} {p : α -> Bool} {ks : List α} (h : ∀ j (h : j < ks.length), p ks[j] = false) : ks.find? p = none := by
 rw [List.find?_eq_none]
 intro x hx
 obtain ⟨j, hj, rfl⟩ := List.getElem_of_mem hx
 rw [h j hj]; decide
theorem DatsRd.setC {w : World} {o : Option Addr} {n cap : Nat} {l : List (El w)} {W : World} (h : DatsRd (.slice o n cap) l W) {b : Nat} (hb : ∀ a, o = some a -> a.block ≠ b) (i : Nat) (u : Value) : DatsRd (.slice o n cap) l (W.setCell ⟨b, i, none⟩ u) := by
 obtain ⟨o', cap', e0, h1, h2, h3, h4⟩ := h
 refine ⟨o', cap', e0, h1, h2, h3, fun j hj => ?_⟩
 obtain ⟨a, ha, hc⟩ := h4 j hj
 refine ⟨a, ha, ?_⟩
 rw [<- hc]
 exact World.cell?_of_block (Below.heap_setCell _ _ _ _ (by rw [add_block]; exact hb a (by cases e0; exact ha)))
def ROfV {w : World} (ks : List (List (El w))) (o : List (List UInt8)) (t : Int) (v : Value) (ok : Bool) (W : World) : Prop :=
 match ks.find? (hasKey o t) with
 | none => v = .agg #[.slice none 0 0, .int .i64 0, .int .u32 0, .slice none 0 0] /\ ok = false
 | some k => ∃ cs, v = .agg cs.toArray /\ SetC cs k W /\ ok = true
def ROfR {w : World} (l : List (El w)) (o : List (List UInt8)) (t : Int) (w0 : World) (e : Ending) (w' : World) : Prop :=
 ∃ (c : List (El w)) (v : Value) (ok : Bool), plE c = Rc.canon (plE l) /\ c.length <= l.length /\ e = .returned (.tuple #[v, .bool ok]) /\ ROfV (grp c) o t v ok w' /\ Below w0.heap.size w0 w'
theorem mem_flat_len {α : Type} {k : List α} : ∀ {L : List (List α)}, k ∈ L -> k.length <= L.flatten.length
 | x :: L, h => by
  rw [List.flatten_cons, List.length_append]
  rcases List.mem_cons.1 h with rfl | h
  ·omega
  ·have := mem_flat_len h; omega
theorem grp_mem_bound {w : World} {c : List (El w)} {k : List (El w)} (h : k ∈ grp c) : k.length <= c.length := by
 have h2 := mem_flat_len h
 rw [grp_flat c] at h2; exact h2
theorem grp_len {w : World} (c : List (El w)) : (grp c).length <= c.length := by
 have : ∀ (n : Nat) (c : List (El w)), c.length <= n -> (grp c).length <= c.length := by
  intro n
  induction n with
  | zero => intro c h; have : c = [] := List.length_eq_zero_iff.1 (by omega); subst this; exact Nat.le_refl _
  | succ n ih =>
   intro c h
   cases c with
   | nil => exact Nat.le_refl _
   | cons x l =>
    have hp := run_posE x l
    rw [grp_cons, List.length_cons]
    have := ih ((x :: l).drop (Rs.run x.1.2 (plE (x :: l)))) (by rw [List.length_drop]; simp only [List.length_cons] at h ⊢; omega)
    rw [List.length_drop] at this
    simp only [List.length_cons] at this ⊢
    omega
 exact this _ c (Nat.le_refl _)
set_option maxHeartbeats 4000000 in
theorem refOf_any {w w0 : World} (v vo : Value) (l : List (El w)) (o : List (List UInt8)) (t : Int) (hb0 : Below w.heap.size w w0) (hv : RecsRd v (l.map (·.1)) w0) (na : l.length <= 1000) (ho : Rd vo o w0) (no : NB o) :
  Calls Tryz.prog 112 #[v, vo, .int .i64 t] w0 (ROfR l o t w0) := by
 obtain ⟨oo, co, rfl, _, _⟩ := ho.form
 obtain ⟨W2, hW2⟩ : ∃ W2, w0.alloc (.cells #[.slice none 0 0, .int .i64 0, .int .u32 0, .slice none 0 0] 173) = W2 := ⟨_, rfl⟩
 have hb2 : Below w0.heap.size w0 W2 := by subst hW2; exact (Below.refl _ _).alloc (Nat.le_refl _) _
 have hblk : Blk w0.heap.size #[.slice none 0 0, .int .i64 0, .int .u32 0, .slice none 0 0] 173 W2 := by subst hW2; exact Blk.new w0 _ _
 have HC := Lib.hid (refSets_any v l (below5 hb0 hb2) (hv.kept hb2) na)
 have HB0 := Lib.hid hb0
 have HB2 := Lib.hid hb2
 have HBL := Lib.hid hblk
 have HO := Lib.hid ho
 have NO := Lib.hid no
 clear hb0 hv hb2 hblk ho no
 refine (callsIn_wide (n := 0)).1 ?_
 refine callsIn_of_wp Tryz.func112 rfl trivial ?_ rfl
 simp only [Tryz.ntmps112, List.size_toArray, List.length_cons, List.length_nil, Nat.reduceAdd, Nat.reduceSub, Array.replicate_succ, Array.replicate_zero, List.push_toArray, List.append_toArray, List.nil_append, List.cons_append]
 gi_wp2_with fail
 refine (callsIn_wide.2 HC.out).mono ?_
 rintro e9 w1 ⟨c, v', hc1, hc2, rfl, hc4, hc5⟩
 obtain ⟨os, cs, rfl, hs1, hs2⟩ := hc4.form
 have HP := Lib.hid hc1
 have HL := Lib.hid hc2
 have HS := Lib.hid (fun i hi => hc4.at i hi)
 have HB1 : Hid (Below w0.heap.size w0 w1) := below5 HB2.out hc5
 have HBL1 := Lib.hid (HBL.out.below hc5)
 have HWW : Hid (Below w.heap.size w w1) := below5 HB0.out (below5 HB2.out hc5)
 have hgl : ((grp c).length : Int) <= 1000 := by have := grp_len c; omega
 clear hc1 hc2 hc4 hc5 hW2
 gi_wp2_with fail
 gi_loopw [9] (fun vi W => ∃ i : Nat, i <= (grp c).length /\ vi = .int .i64 i /\ Hid (∀ j (h : j < (grp c).length), j < i -> hasKey o t (grp c)[j] = false) /\ Below w1.heap.size w1 W) (fun vi _ => (grp c).length - (intOf vi).toNat)
 case atStart => exact ⟨0, Nat.zero_le _, rfl, (fun j h h0 => absurd h0 (by omega)), Below.refl _ _⟩
 case round =>
  obtain ⟨i, hi, rfl, HN, hb⟩ := hrel
  have HB := Lib.hid hb
  have hbk := HBL1.out.below hb
  have HBK := Lib.hid hbk
  have a0 : wr.cell? ⟨w0.heap.size, 0, none⟩ = some _ := hbk.cell 0
  have a1 : wr.cell? ⟨w0.heap.size, 1, none⟩ = some _ := hbk.cell 1
  have a2 : wr.cell? ⟨w0.heap.size, 2, none⟩ = some _ := hbk.cell 2
  have a3 : wr.cell? ⟨w0.heap.size, 3, none⟩ = some _ := hbk.cell 3
  have z0 := hbk.frozen 0
  have z1 := hbk.frozen 1
  have z2 := hbk.frozen 2
  have z3 := hbk.frozen 3
  clear hb hbk
  by_cases hlt : i < (grp c).length
  case neg =>
   have hlz : ¬ ((i : Int) < ((grp c).length : Int)) := by omega
   gi_wp2_with fail
   obtain ⟨W5, hW5⟩ : ∃ W, (((wr.setCell ⟨w0.heap.size, 0, none⟩ (.slice none 0 0)).setCell ⟨w0.heap.size, 1, none⟩ (.int .i64 0)).setCell ⟨w0.heap.size, 2, none⟩ (.int .u32 0)).setCell ⟨w0.heap.size, 3, none⟩ (.slice none 0 0) = W := ⟨_, rfl⟩
   have hbl5 : Blk w0.heap.size #[.slice none 0 0, .int .i64 0, .int .u32 0, .slice none 0 0] 173 W5 := by subst hW5; exact (((HBK.out.setAt 0 _).setAt 1 _).setAt 2 _).setAt 3 _
   have hb5 : Below w0.heap.size w0 W5 := by
    subst hW5
    exact ((((below5 HB1.out HB.out).setCell (p := ⟨w0.heap.size, 0, none⟩) (Nat.le_refl _) _).setCell (p := ⟨w0.heap.size, 1, none⟩) (Nat.le_refl _) _).setCell (p := ⟨w0.heap.size, 2, none⟩) (Nat.le_refl _) _).setCell (p := ⟨w0.heap.size, 3, none⟩) (Nat.le_refl _) _
   have HBL5 := Lib.hid hbl5
   have HB5 := Lib.hid hb5
   have b0 : W5.cell? ⟨w0.heap.size, 0, none⟩ = some _ := hbl5.cell 0
   have b1 : W5.cell? ⟨w0.heap.size, 1, none⟩ = some _ := hbl5.cell 1
   have b2 : W5.cell? ⟨w0.heap.size, 2, none⟩ = some _ := hbl5.cell 2
   have b3 : W5.cell? ⟨w0.heap.size, 3, none⟩ = some _ := hbl5.cell 3
   rw [hW5]
   have HW5 := Lib.hid hW5
   clear hbl5 hb5 hW5 a0 a1 a2 a3 z0 z1 z2 z3
   refine bodyPost_ret (v := .tuple #[.agg #[.slice none 0 0, .int .i64 0, .int .u32 0, .slice none 0 0], .bool false]) (by simp at b0 b1 b2 b3; simp [results, Tryz.results112, go_sem, b0, b1, b2, b3]) rfl ?_
   refine ⟨c, _, _, HP.out, HL.out, rfl, ?_, HB5.out⟩
   unfold ROfV
   rw [find_none (fun j hj => HN.out j hj (by omega))]
   exact ⟨rfl, rfl⟩
  case pos =>
  have hlz : (i : Int) < ((grp c).length : Int) := by omega
  obtain ⟨ga, rfl, x, xs, po, no, qo, od, cd, e1, e3, e4, e5⟩ := HS.out i hlt
  obtain ⟨e, he⟩ : ∃ e, ga.add (i * 4) = e := ⟨_, rfl⟩
  obtain ⟨c0, c1, c2, c3⟩ := e5 wr HB.out
  rw [he] at c0 c1 c2 c3
  have HRO := Lib.hid e3
  have HDA := Lib.hid e4
  have HE1 := Lib.hid e1
  have hxk : x.1.2.owner = x.1.2.owner := rfl
  obtain ⟨z, hz⟩ : ∃ z, Nm.same x.1.2.owner o = z := ⟨_, rfl⟩
  have HZ := Lib.hid hz
  obtain ⟨b, hbt⟩ : ∃ b, (x.1.2.type == t) = b := ⟨_, rfl⟩
  have HKEY : Hid (hasKey o t (grp c)[i] = (b && z)) := by show hasKey o t _ = _; rw [e1, <- hz, <- hbt]; rfl
  have HSM : Hid (∀ W', Below w1.heap.size w1 W' -> Calls Tryz.prog 63 #[.slice po no qo, .slice oo o.length co] W' (Gives (.bool z) W')) := fun W' hW => by
   have := refSame_any _ _ x.1.2.owner o W' (HRO.out.below (below5 HWW.out hW)) (HO.out.below (below5 HB1.out hW)) x.2.2.owner NO.out
   rw [hz] at this; exact this
  have HRX : Hid (∀ W', Below w1.heap.size w1 W' -> W'.cell? e = some (.slice po no qo) /\ W'.cell? ⟨e.block, e.off + 1, none⟩ = some (.int .i64 x.1.2.type) /\ W'.cell? ⟨e.block, e.off + 2, none⟩ = some (.int .u32 ((Rs.ttl x.1.2 (plE (grp c)[i]) : Nat) : Int)) /\ W'.cell? ⟨e.block, e.off + 3, none⟩ = some (.slice od (grp c)[i].length cd)) := fun W' hW => by
   have := e5 W' hW
   rw [he] at this; exact this
  clear e1 e3 e4 e5 hz hxk HS HC
  cases b with
  | false =>
   gi_wp2_with fail
   refine ⟨⟨i + 1, hlt, by go_num, ?_, HB.out⟩, by simp [intOf] <;> omega⟩
   show ∀ j (h : j < (grp c).length), j < i + 1 -> _
   intro j hj hjk
   by_cases hji : j < i
   ·exact HN.out j hj hji
   ·have hji : j = i := by omega
    subst hji
    rw [HKEY.out, Bool.false_and]
  | true =>
   cases z with
   | false =>
    gi_wp2_with (gi_at_call 63; refine (callsIn_wide.2 (HSM.out wr HB.out)).mono ?_; rintro e9 wd ⟨rfl, b9⟩; have HBD := Lib.hid (below5 HB.out b9); have HBKD := Lib.hid (HBK.out.below b9); clear a0 a1 a2 a3 z0 z1 z2 z3 c0 c1 c2 c3 b9; obtain ⟨c0, c1, c2, c3⟩ := HRX.out wd HBD.out; have a0 : wd.cell? ⟨w0.heap.size, 0, none⟩ = some _ := HBKD.out.cell 0; have a1 : wd.cell? ⟨w0.heap.size, 1, none⟩ = some _ := HBKD.out.cell 1; have a2 : wd.cell? ⟨w0.heap.size, 2, none⟩ = some _ := HBKD.out.cell 2; have a3 : wd.cell? ⟨w0.heap.size, 3, none⟩ = some _ := HBKD.out.cell 3; have z0 := HBKD.out.frozen 0; have z1 := HBKD.out.frozen 1; have z2 := HBKD.out.frozen 2; have z3 := HBKD.out.frozen 3)
    refine ⟨⟨i + 1, hlt, by go_num, ?_, HBD.out⟩, by simp [intOf] <;> omega⟩
    show ∀ j (h : j < (grp c).length), j < i + 1 -> _
    intro j hj hjk
    by_cases hji : j < i
    ·exact HN.out j hj hji
    ·have hji : j = i := by omega
     subst hji
     rw [HKEY.out, Bool.and_false]
   | true =>
    gi_wp2_with (gi_at_call 63; refine (callsIn_wide.2 (HSM.out wr HB.out)).mono ?_; rintro e9 wd ⟨rfl, b9⟩; have HBD := Lib.hid (below5 HB.out b9); have HBKD := Lib.hid (HBK.out.below b9); clear a0 a1 a2 a3 z0 z1 z2 z3 c0 c1 c2 c3 b9; obtain ⟨c0, c1, c2, c3⟩ := HRX.out wd HBD.out; have a0 : wd.cell? ⟨w0.heap.size, 0, none⟩ = some _ := HBKD.out.cell 0; have a1 : wd.cell? ⟨w0.heap.size, 1, none⟩ = some _ := HBKD.out.cell 1; have a2 : wd.cell? ⟨w0.heap.size, 2, none⟩ = some _ := HBKD.out.cell 2; have a3 : wd.cell? ⟨w0.heap.size, 3, none⟩ = some _ := HBKD.out.cell 3; have z0 := HBKD.out.frozen 0; have z1 := HBKD.out.frozen 1; have z2 := HBKD.out.frozen 2; have z3 := HBKD.out.frozen 3)
    obtain ⟨W5, hW5⟩ : ∃ W, (((wd.setCell ⟨w0.heap.size, 0, none⟩ (.slice po no qo)).setCell ⟨w0.heap.size, 1, none⟩ (.int .i64 x.1.2.type)).setCell ⟨w0.heap.size, 2, none⟩ (.int .u32 ((Rs.ttl x.1.2 (plE (grp c)[i]) : Nat) : Int))).setCell ⟨w0.heap.size, 3, none⟩ (.slice od (grp c)[i].length cd) = W := ⟨_, rfl⟩
    have hbl5 : Blk w0.heap.size #[.slice po no qo, .int .i64 x.1.2.type, .int .u32 ((Rs.ttl x.1.2 (plE (grp c)[i]) : Nat) : Int), .slice od (grp c)[i].length cd] 173 W5 := by subst hW5; exact (((HBKD.out.setAt 0 _).setAt 1 _).setAt 2 _).setAt 3 _
    have hb5 : Below w0.heap.size w0 W5 := by
     subst hW5
     exact ((((below5 HB1.out HBD.out).setCell (p := ⟨w0.heap.size, 0, none⟩) (Nat.le_refl _) _).setCell (p := ⟨w0.heap.size, 1, none⟩) (Nat.le_refl _) _).setCell (p := ⟨w0.heap.size, 2, none⟩) (Nat.le_refl _) _).setCell (p := ⟨w0.heap.size, 3, none⟩) (Nat.le_refl _) _
    have HBL5 := Lib.hid hbl5
    have HB5 := Lib.hid hb5
    have b0 : W5.cell? ⟨w0.heap.size, 0, none⟩ = some _ := hbl5.cell 0
    have b1 : W5.cell? ⟨w0.heap.size, 1, none⟩ = some _ := hbl5.cell 1
    have b2 : W5.cell? ⟨w0.heap.size, 2, none⟩ = some _ := hbl5.cell 2
    have b3 : W5.cell? ⟨w0.heap.size, 3, none⟩ = some _ := hbl5.cell 3
    rw [hW5]
    have HW5 := Lib.hid hW5
    clear hbl5 hb5 hW5 a0 a1 a2 a3 z0 z1 z2 z3
    refine bodyPost_ret (v := .tuple #[.agg #[.slice po no qo, .int .i64 x.1.2.type, .int .u32 ((Rs.ttl x.1.2 (plE (grp c)[i]) : Nat) : Int), .slice od (grp c)[i].length cd], .bool true]) (by simp at b0 b1 b2 b3; simp [results, Tryz.results112, go_sem, b0, b1, b2, b3]) rfl ?_
    refine ⟨c, _, _, HP.out, HL.out, rfl, ?_, HB5.out⟩
    unfold ROfV
    rw [find_at hlt (fun j hj hji => HN.out j hj hji) (by rw [HKEY.out]; rfl)]
    refine ⟨_, rfl, ⟨x, xs, po, no, qo, od, cd, HE1.out, rfl, HRO.out, ?_⟩, rfl⟩
    have hd := HDA.out.cells_kept (CellsKept.below HBD.out)
    have hoff := hd.off (by have := HE1.out; rw [show (grp c)[i] = x :: xs from this]; simp) HBKD.out
    have h9 := (((hd.setC hoff 0 (.slice po no qo)).setC hoff 1 (.int .i64 x.1.2.type)).setC hoff 2 (.int .u32 ((Rs.ttl x.1.2 (plE (grp c)[i]) : Nat) : Int))).setC hoff 3 (.slice od (grp c)[i].length cd)
    rw [show _ = W5 from HW5.out] at h9
    exact h9
end Go.Proofs.YtneghhbclefmoaaGreat
end
section
namespace Go.Proofs.YtneghhbclefmoaaGreat
open Go.RowKit Go.Shelf Go.Sort
set_option maxRecDepth 100000
def ownK {w : World} (o : List (List UInt8)) : List (El w) -> Bool
 | [] => false
 | x :: _ => Nm.same x.1.2.owner o
def typK {w : World} : List (El w) -> Int
 | [] => 0
 | x :: _ => x.1.2.type
def tysK {w : World} (o : List (List UInt8)) (ks : List (List (El w))) : List Int := (ks.filter (ownK o)).map typK
def RTyR {w : World} (l : List (El w)) (o : List (List UInt8)) (w0 : World) (e : Ending) (w' : World) : Prop :=
 ∃ (c : List (El w)) (v' : Value), plE c = Rc.canon (plE l) /\ c.length <= l.length /\ e = .returned v' /\ Sl v' ((tysK o (grp c)).map I64) w' /\ Below w0.heap.size w0 w'
set_option maxHeartbeats 4000000 in
theorem refTypes_any {w w0 : World} (v vo : Value) (l : List (El w)) (o : List (List UInt8)) (hb0 : Below w.heap.size w w0) (hv : RecsRd v (l.map (·.1)) w0) (na : l.length <= 1000) (ho : Rd vo o w0) (no : NB o) :
  Calls Tryz.prog 92 #[v, vo] w0 (RTyR l o w0) := by
 obtain ⟨oo, co, rfl, _, _⟩ := ho.form
 have HC := Lib.hid (refSets_any v l hb0 hv na)
 have HB0 := Lib.hid hb0
 have HO := Lib.hid ho
 have NO := Lib.hid no
 clear hb0 hv ho no
 refine (callsIn_wide (n := 0)).1 ?_
 refine callsIn_of_wp Tryz.func92 rfl trivial ?_ rfl
 simp only [Tryz.ntmps92, List.size_toArray, List.length_cons, List.length_nil, Nat.reduceAdd, Nat.reduceSub, Array.replicate_succ, Array.replicate_zero, List.push_toArray, List.append_toArray, List.nil_append, List.cons_append]
 gi_wp2_with (gi_at_call 91; refine (callsIn_wide.2 HC.out).mono ?_; rintro e9 w1 ⟨c, v', hc1, hc2, rfl, hc4, hc5⟩)
 obtain ⟨os, cs, rfl, hs1, hs2⟩ := hc4.form
 have HP := Lib.hid hc1
 have HL := Lib.hid hc2
 have HS := Lib.hid (fun i hi => hc4.at i hi)
 have HB1 := Lib.hid hc5
 have HWW : Hid (Below w.heap.size w w1) := below5 HB0.out hc5
 have hgl : ((grp c).length : Int) <= 1000 := by have := grp_len c; omega
 clear hc1 hc2 hc4 hc5
 gi_wp2_with fail
 gi_loopw [5, 7] (fun v5 vi W => ∃ (i : Nat) (zs : List Int), i <= (grp c).length /\ vi = .int .i64 i /\ Hid (zs = tysK o ((grp c).take i)) /\ zs.length <= i /\ Below w1.heap.size w1 W /\ Row (fun g => w1.heap.size <= g) 3 1 v5 zs.length (zs.map I64) W) (fun _ vi _ => (grp c).length - (intOf vi).toNat)
 case atStart => exact ⟨0, [], Nat.zero_le _, rfl, rfl, Nat.le_refl _, Below.refl _ _, Row.nil _ _ _ _⟩
 case round =>
  obtain ⟨i, zs, hi, rfl, HZS, hzl, hb, hrow⟩ := hrel
  have HB := Lib.hid hb
  have HR := Lib.hid hrow
  obtain ⟨o5, c5, rfl⟩ := hrow.form
  clear hb hrow
  by_cases hlt : i < (grp c).length
  case neg =>
   have hlz : ¬ ((i : Int) < ((grp c).length : Int)) := by omega
   obtain rfl : i = (grp c).length := by omega
   gi_wp2_with fail
   go_ret
   refine ⟨c, _, HP.out, HL.out, rfl, ?_, below5 HB1.out HB.out⟩
   have h1 : zs = _ := HZS.out
   rw [List.take_length] at h1
   rw [<- h1]
   exact Row.sl (by rw [List.length_map]; exact HR.out)
  case pos =>
  have hlz : (i : Int) < ((grp c).length : Int) := by omega
  obtain ⟨ga, rfl, x, xs, po, no, qo, od, cd, e1, e3, e4, e5⟩ := HS.out i hlt
  obtain ⟨e, he⟩ : ∃ e, ga.add (i * 4) = e := ⟨_, rfl⟩
  obtain ⟨c0, c1, _, _⟩ := e5 wr HB.out
  rw [he] at c0 c1
  have HRO := Lib.hid e3
  have htk : tysK o ((grp c).take (i + 1)) = tysK o ((grp c).take i) ++ if Nm.same x.1.2.owner o then [x.1.2.type] else [] := by
   unfold tysK
   rw [List.take_succ_eq_append_getElem hlt, e1, List.filter_append, List.map_append]
   congr 1
   show List.map typK (List.filter (ownK o) [x :: xs]) = _
   by_cases h : Nm.same x.1.2.owner o = true
   ·rw [List.filter_cons_of_pos (by exact h), if_pos h]; rfl
   ·rw [List.filter_cons_of_neg (by exact h), if_neg h]; rfl
  have HTK := Lib.hid htk
  obtain ⟨z, hz⟩ : ∃ z, Nm.same x.1.2.owner o = z := ⟨_, rfl⟩
  have HZ := Lib.hid hz
  have HSM : Hid (∀ W', Below w1.heap.size w1 W' -> Calls Tryz.prog 63 #[.slice po no qo, .slice oo o.length co] W' (Gives (.bool z) W')) := fun W' hW => by
   have := refSame_any _ _ x.1.2.owner o W' (HRO.out.below (below5 HWW.out hW)) (HO.out.below (below5 HB1.out hW)) x.2.2.owner NO.out
   rw [hz] at this; exact this
  have HRX : Hid (∀ W', Below w1.heap.size w1 W' -> W'.cell? e = some (.slice po no qo) /\ W'.cell? ⟨e.block, e.off + 1, none⟩ = some (.int .i64 x.1.2.type)) := fun W' hW => by
   obtain ⟨q0, q1, _⟩ := e5 W' hW
   rw [he] at q0 q1; exact ⟨q0, q1⟩
  clear e1 e3 e4 e5 hz htk HS HC
  cases z with
  | false =>
   gi_wp2_with (gi_at_call 63; refine (callsIn_wide.2 (HSM.out wr HB.out)).mono ?_; rintro e9 wd ⟨rfl, b9⟩; have HBD := Lib.hid (below5 HB.out b9); have HRD := Lib.hid (HR.out.below b9); clear c0 c1 b9; obtain ⟨c0, c1⟩ := HRX.out wd HBD.out)
   refine ⟨⟨i + 1, zs, hlt, by go_num, ?_, by omega, HBD.out, HRD.out⟩, by simp [intOf] <;> omega⟩
   show zs = _
   rw [HTK.out, HZ.out, <- show zs = _ from HZS.out]; simp
  | true =>
   gi_wp2_with (first | (gi_at_call 63; refine (callsIn_wide.2 (HSM.out wr HB.out)).mono ?_; rintro e9 wd ⟨rfl, b9⟩; have HBD := Lib.hid (below5 HB.out b9); have HRD := Lib.hid (HR.out.below b9); clear c0 c1 b9; obtain ⟨c0, c1⟩ := HRX.out wd HBD.out; have hnew := GRd.new [.int .i64 x.1.2.type] rfl (by simp [Value.oneCell']) wd 3; have HW9 : Hid (Below w1.heap.size w1 (wd.alloc (.cells #[.int .i64 x.1.2.type] 3))) := HBD.out.alloc HBD.out.size _; have HR9 := Lib.hid (HRD.out.alloc (.cells #[.int .i64 x.1.2.type] 3)); have HN9 := Lib.hid hnew; have HZ9 : Hid (w1.heap.size <= (wd.alloc (.cells #[.int .i64 x.1.2.type] 3)).heap.size) := HW9.out.size; clear hnew) | (gi_at_builtin; refine append_g (fun g => w1.heap.size <= g) 3 _ 1 8 info_int rfl (by decide) rfl _ _ _ Tryz.underlying55 rfl _ zs.length (zs.map fun z => [I64 z]) (by rfl) (by rw [show (zs.map fun z => [I64 z]).flatten = zs.map I64 by rw [<- flatten_one (zs.map I64), List.map_map]; rfl]; exact HR9.out) _ [[.int .i64 x.1.2.type]] (by rfl) HN9.out (by simp; omega) (by omega) HZ9.out ?_; intro v10 w10 hrow10 hgr10))
   have hb10 := HW9.out.grown hgr10 HW9.out.size (fun g hg => HR9.out.2 g hg)
   refine ⟨⟨i + 1, zs ++ [x.1.2.type], hlt, by go_num, ?_, by simp; omega, hb10, ?_⟩, by simp [intOf] <;> omega⟩
   ·show zs ++ _ = _
    rw [HTK.out, HZ.out, <- show zs = _ from HZS.out]; rfl
   ·have h2 : (List.map (fun z => [I64 z]) zs).flatten = zs.map I64 := by rw [<- flatten_one (zs.map I64), List.map_map]; rfl
    rw [List.length_append, List.map_append]
    simpa [h2] using hrow10
end Go.Proofs.YtneghhbclefmoaaGreat
end
section
namespace Go.Proofs.YtneghhbclefmoaaGreat
open Go.RowKit Go.Shelf Go.Sort
set_option maxRecDepth 100000
end Go.Proofs.YtneghhbclefmoaaGreat
end
section
namespace Go.Proofs.YtneghhbclefmoaaGreat
open Go.RowKit Go.Shelf Go.Sort
set_option maxRecDepth 100000
theorem NmsRd.form {v : Value} {ns : List (List (List UInt8))} {W : World} (h : NmsRd v ns W) : ∃ o cap, v = .slice o ns.length cap /\ ns.length <= cap /\ cap <= 9223372036854775807 := by
 obtain ⟨us, h1, h2, h3⟩ := h
 obtain ⟨o, cap, e, h4, h5⟩ := h2.form
 exact ⟨o, cap, by rw [e, h1], by omega, by unfold maxLen at h5; exact h5⟩
end Go.Proofs.YtneghhbclefmoaaGreat
end
section
namespace Go.Proofs.YtneghhbclefmoaaGreat
open Go.RowKit Go.Shelf Go.Sort
set_option maxRecDepth 100000
end Go.Proofs.YtneghhbclefmoaaGreat
end
section
namespace Go.Proofs.YtneghhbclefmoaaGreat
open Go.RowKit Go.Shelf Go.Sort
set_option maxRecDepth 100000
namespace Rs
open Rc
theorem run_mem {x : PRec} : ∀ {g : List PRec}, run x g = g.length -> ∀ z ∈ g, P x z = true
 | [], _, z, hz => by cases hz
 | y :: g, h, z, hz => by
  unfold run at h
  by_cases hy : P x y = true
  ·simp only [List.takeWhile_cons, hy, if_true, List.length_cons] at h
   rcases List.mem_cons.1 hz with rfl | hz
   ·exact hy
   ·exact run_mem (by unfold run; omega) z hz
  ·simp [hy] at h
theorem grpF_flat : ∀ (f : Nat) (l : List PRec), l.length <= f -> (grpF f l).flatten = l
 | 0, l, h => by
  have : l = [] := List.length_eq_zero_iff.1 (by omega)
  subst this; rfl
 | f + 1, [], _ => rfl
 | f + 1, x :: l, h => by
  show (_ :: grpF f _).flatten = _
  have hp := run_pos x l
  rw [List.flatten_cons, grpF_flat f _ (by rw [List.length_drop, List.length_cons]; simp only [List.length_cons] at h; omega), List.take_append_drop]
theorem grpF_heads : ∀ (f : Nat) (L : List PRec), L.length <= f -> Strict L -> ((grpF f L).map List.head?).Pairwise fun a b => ∀ x y, a = some x -> b = some y -> cmpK x y < 0
 | 0, _, _, _ => List.Pairwise.nil
 | f + 1, [], _, _ => List.Pairwise.nil
 | f + 1, x :: l, hl, hs => by
  have hp := run_pos x l
  have hs' := List.pairwise_cons.1 hs
  obtain ⟨_, h2⟩ := run_split x hs (fun y hy => by
   rcases List.mem_cons.1 hy with rfl | hy
   ·have := cmpK_cm.refl y; omega
   ·exact cmp_le_key (by have := hs'.1 y hy; omega))
  have hdl : ((x :: l).drop (run x (x :: l))).length <= f := by rw [List.length_drop, List.length_cons]; simp only [List.length_cons] at hl; omega
  show ((_ :: grpF f _).map List.head?).Pairwise _
  rw [List.map_cons]
  refine List.pairwise_cons.2 ⟨fun b hb a c ha hc => ?_, grpF_heads f _ hdl (List.Pairwise.sublist (List.drop_sublist _ _) hs)⟩
  have hax : a = x := by
   rw [List.head?_take, if_neg (by omega)] at ha
   exact (Option.some.inj ha).symm
  obtain ⟨g, hg, rfl⟩ := List.mem_map.1 hb
  have hcm : c ∈ (grpF f ((x :: l).drop (run x (x :: l)))).flatten := List.mem_flatten.2 ⟨g, hg, List.mem_of_mem_head? hc⟩
  rw [grpF_flat f _ hdl] at hcm
  rw [hax]
  exact h2 c hcm
def tys (o : List (List UInt8)) (gs : List (List PRec)) : List Int := ((gs.filterMap List.head?).filter fun x => Nm.same x.owner o).map PRec.type
theorem strict_ext : ∀ {a b : List Int}, a.Pairwise (· < ·) -> b.Pairwise (· < ·) -> (∀ z, z ∈ a ↔ z ∈ b) -> a = b
 | [], [], _, _, _ => rfl
 | [], y :: b, _, _, h => absurd ((h y).2 List.mem_cons_self) (by simp)
 | x :: a, [], _, _, h => absurd ((h x).1 List.mem_cons_self) (by simp)
 | x :: a, y :: b, ha, hb, h => by
  have ha' := List.pairwise_cons.1 ha
  have hb' := List.pairwise_cons.1 hb
  have hxy : x = y := by
   rcases List.mem_cons.1 ((h x).1 List.mem_cons_self) with e | e
   ·exact e
   ·rcases List.mem_cons.1 ((h y).2 List.mem_cons_self) with e2 | e2
    ·exact e2.symm
    ·have h1 := hb'.1 x e
     have h2 := ha'.1 y e2
     omega
  subst hxy
  rw [strict_ext ha'.2 hb'.2 fun z => ⟨fun hz => by
   rcases List.mem_cons.1 ((h z).1 (List.mem_cons_of_mem _ hz)) with e | e
   ·have := ha'.1 z hz; omega
   ·exact e, fun hz => by
   rcases List.mem_cons.1 ((h z).2 (List.mem_cons_of_mem _ hz)) with e | e
   ·have := hb'.1 z hz; omega
   ·exact e⟩]
theorem compactUpTo_strict (d : Array Int) (hd : ∀ i j, i <= j -> j < d.size -> d[i]! <= d[j]!) : ∀ m, m <= d.size -> (Lib.compactUpTo d m).Pairwise (· < ·) /\ ∀ z ∈ Lib.compactUpTo d m, ∃ j, j < m /\ z = d[j]!
 | 0, _ => ⟨by unfold Lib.compactUpTo; exact List.Pairwise.nil, fun z hz => by unfold Lib.compactUpTo at hz; cases hz⟩
 | m + 1, hm => by
  obtain ⟨h1, h2⟩ := compactUpTo_strict d hd m (by omega)
  rw [Lib.compactUpTo_succ]
  by_cases hk : Lib.keeps d m = true
  ·rw [if_pos hk]
   have hk' : m = 0 \/ d[m]! ≠ d[m - 1]! := by simpa [Lib.keeps] using hk
   refine ⟨List.pairwise_append.2 ⟨h1, List.pairwise_singleton _ _, fun a ha b hb => ?_⟩, fun z hz => ?_⟩
   ·rw [List.mem_singleton] at hb
    subst hb
    obtain ⟨j, hj, rfl⟩ := h2 a ha
    have q1 := hd j (m - 1) (by omega) (by omega)
    have q2 := hd (m - 1) m (by omega) (by omega)
    rcases hk' with h0 | h0
    ·omega
    ·omega
   ·rcases List.mem_append.1 hz with hz | hz
    ·obtain ⟨j, hj, e⟩ := h2 z hz; exact ⟨j, by omega, e⟩
    ·rw [List.mem_singleton] at hz; exact ⟨m, by omega, hz⟩
  ·rw [if_neg hk, List.append_nil]
   exact ⟨h1, fun z hz => by obtain ⟨j, hj, e⟩ := h2 z hz; exact ⟨j, by omega, e⟩⟩
theorem compact_strict {zs : List Int} (h : zs.Pairwise (· <= ·)) : (Lib.compact zs).Pairwise (· < ·) /\ ∀ z ∈ Lib.compact zs, z ∈ zs := by
 have hg : ∀ i (hi : i < zs.length), zs.toArray[i]! = zs[i] := fun i hi => by rw [getElem!_pos zs.toArray i (by simpa using hi)]; simp
 have hs : zs.toArray.size = zs.length := by simp
 obtain ⟨h1, h2⟩ := compactUpTo_strict zs.toArray (fun i j hij hj => by
  rw [hs] at hj
  rw [hg i (by omega), hg j hj]
  by_cases e : i = j
  ·subst e; exact Int.le_refl _
  ·exact List.pairwise_iff_getElem.1 h i j (by omega) hj (by omega)) zs.length (by simp)
 refine ⟨h1, fun z hz => ?_⟩
 obtain ⟨j, hj, rfl⟩ := h2 z hz
 rw [hg j hj]; exact List.getElem_mem hj
theorem types_strict (l : List PRec) (o : List (List UInt8)) : (types l o).Pairwise (· < ·) /\ ∀ z, z ∈ types l o ↔ ∃ r ∈ l, Nm.same r.owner o = true /\ r.type = z := by
 have hsrt : (((l.filter fun r => Nm.same r.owner o).map (·.type)).mergeSort fun x y => decide (x <= y)).Pairwise (· <= ·) := by
  have h := List.pairwise_mergeSort (le := fun x y : Int => decide (x <= y)) (by intro a b c; simp; omega) (by intro a b; simp; omega) ((l.filter fun r => Nm.same r.owner o).map (·.type))
  exact h.imp fun {a b} hab => by simpa using hab
 obtain ⟨h1, h2⟩ := compact_strict hsrt
 refine ⟨h1, fun z => ⟨fun hz => ?_, fun hz => ?_⟩⟩
 ·obtain ⟨r, hr, e⟩ := List.mem_map.1 (List.mem_mergeSort.1 (h2 z hz))
  obtain ⟨hr1, hr2⟩ := List.mem_filter.1 hr
  exact ⟨r, hr1, hr2, e⟩
 ·obtain ⟨r, hr1, hr2, e⟩ := hz
  exact compact_mem (List.mem_mergeSort.2 (List.mem_map.2 ⟨r, List.mem_filter.2 ⟨hr1, hr2⟩, e⟩))
theorem same_congr {a b o : List (List UInt8)} (h : Nm.fold a = Nm.fold b) : Nm.same a o = Nm.same b o := by unfold Nm.same; rw [h]
abbrev G (l : List PRec) : List (List PRec) := grpF (canon l).length (canon l)
theorem G_of {l : List PRec} {r : PRec} (h : r ∈ canon l) : ∃ x xs, x :: xs ∈ G l /\ P x r = true /\ r ∈ x :: xs := by
 have hf := grpF_flat (canon l).length (canon l) (Nat.le_refl _)
 rw [<- hf] at h
 obtain ⟨g, hg, hr⟩ := List.mem_flatten.1 h
 obtain ⟨x, xs, rfl, _, h3, _⟩ := grp_found hg
 exact ⟨x, xs, hg, run_mem h3 r hr, hr⟩
theorem G_mem {l : List PRec} {g : List PRec} (h : g ∈ G l) {r : PRec} (hr : r ∈ g) : r ∈ canon l := by
 rw [<- grpF_flat (canon l).length (canon l) (Nat.le_refl _)]
 exact List.mem_flatten.2 ⟨g, h, hr⟩
theorem types_tys (l : List PRec) (o : List (List UInt8)) : types l o = tys o (G l) := by
 obtain ⟨h1, h2⟩ := types_strict l o
 have hco := canon_of l
 refine strict_ext h1 ?_ fun z => ?_
 ·unfold tys
  refine List.pairwise_map.2 ?_
  have h3 := grpF_heads (canon l).length (canon l) (Nat.le_refl _) hco.strict
  have h4 : ((G l).filterMap List.head?).Pairwise fun x y => cmpK x y < 0 := by
   refine List.Pairwise.filterMap (R := fun g g' : List PRec => ∀ x y, g.head? = some x -> g'.head? = some y -> cmpK x y < 0) List.head? (fun g g' hgg b hb b' hb' => hgg b b' hb hb') (List.pairwise_map.1 h3)
  refine (List.Pairwise.filter _ h4 |> fun h => List.Pairwise.imp_of_mem (fun {a b} ha hb hab => ?_) h)
  have ha' := (List.mem_filter.1 ha).2
  have hb' := (List.mem_filter.1 hb).2
  have hs : Nm.same a.owner b.owner = true := by
   unfold Nm.same at ha' hb' ⊢
   rw [beq_iff_eq] at ha' hb' ⊢
   rw [ha', hb']
  have hz := Nm.cmp_zero a.owner b.owner
  rw [hs, beq_iff_eq] at hz
  unfold cmpK orI at hab
  rw [if_neg (by rw [hz]; simp)] at hab
  unfold Nm.sgn at hab
  split at hab
  ·assumption
  ·split at hab <;> omega
 ·rw [h2]
  unfold tys
  constructor
  ·rintro ⟨r, hr, hs, rfl⟩
   obtain ⟨x, hx, e, _⟩ := hco.all r hr
   obtain ⟨y, ys, hy, hp, _⟩ := G_of hx
   unfold P at hp
   rw [Bool.and_eq_true, beq_iff_eq] at hp
   refine List.mem_map.2 ⟨y, List.mem_filter.2 ⟨List.mem_filterMap.2 ⟨_, hy, rfl⟩, ?_⟩, by rw [hp.1, cmp_type e]⟩
   have h5 : Nm.fold y.owner = Nm.fold r.owner := by
    have := hp.2
    unfold Nm.same at this
    rw [beq_iff_eq] at this
    rw [this, cmp_owner e]
   rw [same_congr h5]; exact hs
  ·intro hz
   obtain ⟨x, hx, rfl⟩ := List.mem_map.1 hz
   obtain ⟨hx1, hx2⟩ := List.mem_filter.1 hx
   obtain ⟨g, hg, hh⟩ := List.mem_filterMap.1 hx1
   obtain ⟨y, hy, e, _⟩ := hco.some x (G_mem hg (List.mem_of_mem_head? hh))
   exact ⟨y, hy, by rw [<- same_congr (cmp_owner e)]; exact hx2, (cmp_type e).symm⟩
def hasP (o : List (List UInt8)) (t : Int) : List PRec -> Bool
 | [] => false
 | x :: _ => (x.type == t) && Nm.same x.owner o
theorem mine_find (l : List PRec) (o : List (List UInt8)) (t : Int) : mine l o t = ((G l).find? (hasP o t)).getD [] /\ ∀ g, (G l).find? (hasP o t) = some g -> ∃ x xs, g = x :: xs /\ run x g = g.length := by
 have hm : mine l o t = (canon l).filter (Q o t) := by unfold mine; exact canon_filter (Q_inv _ _) l
 cases hf : (G l).find? (hasP o t) with
 | none =>
  refine ⟨?_, fun g h => by cases h⟩
  rw [hm]
  show _ = []
  rw [List.filter_eq_nil_iff]
  intro r hr hq
  obtain ⟨x, xs, hx, hp, _⟩ := G_of hr
  have hn := List.find?_eq_none.1 hf _ hx
  refine hn ?_
  unfold P at hp
  unfold Q at hq
  rw [Bool.and_eq_true, beq_iff_eq] at hp hq
  unfold hasP
  rw [Bool.and_eq_true, beq_iff_eq]
  refine ⟨by rw [hp.1, hq.1], ?_⟩
  have h1 := hp.2
  have h2 := hq.2
  unfold Nm.same at h1 h2 ⊢
  rw [beq_iff_eq] at h1 h2 ⊢
  rw [h1, h2]
 | some g =>
  have hg : g ∈ G l := List.mem_of_find?_eq_some hf
  have hk : hasP o t g = true := List.find?_some hf
  obtain ⟨x, xs, rfl, h1, h2, _⟩ := grp_found hg
  refine ⟨?_, fun g h => by cases h; exact ⟨x, xs, rfl, h2⟩⟩
  show _ = x :: xs
  rw [<- h1]
  unfold hasP at hk
  rw [Bool.and_eq_true, beq_iff_eq] at hk
  have hs : Nm.fold x.owner = Nm.fold o := by
   have := hk.2
   unfold Nm.same at this
   rwa [beq_iff_eq] at this
  have hQ : Q o t = Q x.owner x.type := by
   funext r
   unfold Q Nm.same
   rw [hk.1, hs]
  unfold mine
  rw [hQ]
end Rs
section
variable {w : World}
theorem tysK_tys (o : List (List UInt8)) : ∀ ks : List (List (El w)), (∀ k ∈ ks, k ≠ []) -> tysK o ks = Rs.tys o (ks.map plE)
 | [], _ => rfl
 | k :: ks, h => by
  have ih := tysK_tys o ks (fun k' hk' => h k' (List.mem_cons_of_mem _ hk'))
  match k, h k List.mem_cons_self with
  | [], h0 => exact absurd rfl h0
  | x :: xs, _ =>
   unfold tysK Rs.tys at ih ⊢
   show ((( (x :: xs) :: ks).filter (ownK o)).map typK) = (((x.1.2 :: (ks.map plE).filterMap List.head?).filter fun x => Nm.same x.owner o).map Rc.PRec.type)
   rw [List.filter_cons, List.filter_cons]
   have e : ownK o (x :: xs) = Nm.same x.1.2.owner o := rfl
   rw [e]
   by_cases hs : Nm.same x.1.2.owner o = true
   ·rw [if_pos hs, if_pos hs, List.map_cons, List.map_cons, ih]; rfl
   ·rw [if_neg hs, if_neg hs, ih]
theorem grp_ne (c : List (El w)) : ∀ k ∈ grp c, k ≠ [] := by
 suffices H : ∀ n (c : List (El w)), c.length <= n -> ∀ k ∈ grp c, k ≠ [] from H _ c (Nat.le_refl _)
 intro n
 induction n with
 | zero => intro c hc k hk; obtain rfl := List.length_eq_zero_iff.1 (Nat.le_zero.1 hc); cases hk
 | succ n ih =>
  intro c hc k hk
  cases c with
  | nil => cases hk
  | cons x c =>
   rw [grp_cons] at hk
   have hp := run_posE x c
   rcases List.mem_cons.1 hk with rfl | hk
   ·intro e
    have := congrArg List.length e
    simp at this; omega
   ·exact ih _ (by rw [List.length_drop]; simp only [List.length_cons] at hc ⊢; omega) k hk
theorem find_map (o : List (List UInt8)) (t : Int) : ∀ ks : List (List (El w)), (ks.map plE).find? (Rs.hasP o t) = (ks.find? (hasKey o t)).map plE
 | [] => rfl
 | k :: ks => by
  have e : Rs.hasP o t (plE k) = hasKey o t k := by cases k <;> rfl
  rw [List.map_cons, List.find?_cons, List.find?_cons, e]
  cases hasKey o t k with
  | true => rfl
  | false => exact find_map o t ks
theorem tysK_types {c : List (El w)} {l : List Rc.PRec} (h : plE c = Rc.canon l) (o : List (List UInt8)) : tysK o (grp c) = Rs.types l o := by
 rw [tysK_tys o _ (grp_ne c), plE_grp, h, Rs.types_tys]
theorem DF.ttl {r : Rc.PRec} (h : DF r) (t : Nat) : DF { r with ttl := t } := ⟨h.names, h.nums, h.texts, h.raw, h.name, h.text⟩
theorem mem_grp {c : List (El w)} {k : List (El w)} (hk : k ∈ grp c) {x : El w} (hx : x ∈ k) : x ∈ c := by
 rw [<- grp_flat c]; exact List.mem_flatten.2 ⟨k, hk, hx⟩
end
end Go.Proofs.YtneghhbclefmoaaGreat
end
