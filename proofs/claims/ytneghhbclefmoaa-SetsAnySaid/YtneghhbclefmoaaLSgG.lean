/- The document's Of: the set of an owner and a type. -/
import Derived.Test.YtneghhbclefmoaaLSgD
import Derived.Test.YtneghhbclefmoaaLSfD
section
namespace Go.Proofs.Ytneghhbclefmoaa
open Go.RowKit Go.Shelf Go.Sort
set_option maxRecDepth 100000

def hasKey {w : World} (o : List (List UInt8)) (t : Int) : List (El w) → Bool
  | [] => false
  | x :: _ => (x.1.2.type == t) && Nm.same x.1.2.owner o
theorem find_at {α : Type} {p : α → Bool} : ∀ {ks : List α} {i : Nat} (hi : i < ks.length), (∀ j (h : j < ks.length), j < i → p ks[j] = false) → p ks[i] = true → ks.find? p = some ks[i]
  | x :: ks, 0, _, _, hp => by
    have h0 : p x = true := hp
    rw [List.find?_cons, h0]; rfl
  | x :: ks, i + 1, hi, h, hp => by
    have h0 : p x = false := h 0 (by simp) (by omega)
    rw [List.find?_cons, h0]
    exact find_at (by simpa using hi) (fun j hj hji => h (j + 1) (by simpa using hj) (by omega)) (by simpa using hp)
theorem find_none {α : Type} {p : α → Bool} {ks : List α} (h : ∀ j (h : j < ks.length), p ks[j] = false) : ks.find? p = none := by
  rw [List.find?_eq_none]
  intro x hx
  obtain ⟨j, hj, rfl⟩ := List.getElem_of_mem hx
  rw [h j hj]; decide
theorem DatsRd.setC {w : World} {o : Option Addr} {n cap : Nat} {l : List (El w)} {W : World} (h : DatsRd (.slice o n cap) l W) {b : Nat} (hb : ∀ a, o = some a → a.block ≠ b) (i : Nat) (u : Value) : DatsRd (.slice o n cap) l (W.setCell ⟨b, i, none⟩ u) := by
  obtain ⟨o', cap', e0, h1, h2, h3, h4⟩ := h
  refine ⟨o', cap', e0, h1, h2, h3, fun j hj => ?_⟩
  obtain ⟨a, ha, hc⟩ := h4 j hj
  refine ⟨a, ha, ?_⟩
  rw [← hc]
  exact World.cell?_of_block (Below.heap_setCell _ _ _ _ (by rw [add_block]; exact hb a (by cases e0; exact ha)))
/-- what the document's Of hands back -/
def ROfV {w : World} (ks : List (List (El w))) (o : List (List UInt8)) (t : Int) (v : Value) (ok : Bool) (W : World) : Prop :=
  match ks.find? (hasKey o t) with
  | none => v = .agg #[.slice none 0 0, .int .i64 0, .int .u32 0, .slice none 0 0] ∧ ok = false
  | some k => ∃ cs, v = .agg cs.toArray ∧ SetC cs k W ∧ ok = true
def ROfR {w : World} (l : List (El w)) (o : List (List UInt8)) (t : Int) (w0 : World) (e : Ending) (w' : World) : Prop :=
  ∃ (c : List (El w)) (v : Value) (ok : Bool), plE c = Rc.canon (plE l) ∧ c.length ≤ l.length ∧ e = .returned (.tuple #[v, .bool ok]) ∧ ROfV (grp c) o t v ok w' ∧ Below w0.heap.size w0 w'
theorem mem_flat_len {α : Type} {k : List α} : ∀ {L : List (List α)}, k ∈ L → k.length ≤ L.flatten.length
  | x :: L, h => by
    rw [List.flatten_cons, List.length_append]
    rcases List.mem_cons.1 h with rfl | h
    · omega
    · have := mem_flat_len h; omega
theorem grp_mem_bound {w : World} {c : List (El w)} {k : List (El w)} (h : k ∈ grp c) : k.length ≤ c.length := by
  have h2 := mem_flat_len h
  rw [grp_flat c] at h2; exact h2
theorem grp_len {w : World} (c : List (El w)) : (grp c).length ≤ c.length := by
  have : ∀ (n : Nat) (c : List (El w)), c.length ≤ n → (grp c).length ≤ c.length := by
    intro n
    induction n with
    | zero => intro c h; have : c = [] := List.length_eq_zero_iff.1 (by omega); subst this; exact Nat.le_refl _
    | succ n ih =>
      intro c h
      cases c with
      | nil => exact Nat.le_refl _
      | cons x l =>
        have hp := run_posE x l
        rw [grp_cons, List.length_cons]
        have := ih ((x :: l).drop (Rs.run x.1.2 (plE (x :: l)))) (by rw [List.length_drop]; simp only [List.length_cons] at h ⊢; omega)
        rw [List.length_drop] at this
        simp only [List.length_cons] at this ⊢
        omega
  exact this _ c (Nat.le_refl _)
set_option maxHeartbeats 4000000 in
theorem refOf_any {w w0 : World} (v vo : Value) (l : List (El w)) (o : List (List UInt8)) (t : Int) (hb0 : Below w.heap.size w w0) (hv : RecsRd v (l.map (·.1)) w0) (na : l.length ≤ 1000) (ho : Rd vo o w0) (no : NB o) :
    Calls Try.prog 35 #[v, vo, .int .i64 t] w0 (ROfR l o t w0) := by
  obtain ⟨oo, co, rfl, _, _⟩ := ho.form
  obtain ⟨W2, hW2⟩ : ∃ W2, w0.alloc (.cells #[.slice none 0 0, .int .i64 0, .int .u32 0, .slice none 0 0] 57) = W2 := ⟨_, rfl⟩
  have hb2 : Below w0.heap.size w0 W2 := by subst hW2; exact (Below.refl _ _).alloc (Nat.le_refl _) _
  have hblk : Blk w0.heap.size #[.slice none 0 0, .int .i64 0, .int .u32 0, .slice none 0 0] 57 W2 := by subst hW2; exact Blk.new w0 _ _
  have HC := Lib.hid (refSets_any v l (below5 hb0 hb2) (hv.kept hb2) na)
  have HB0 := Lib.hid hb0
  have HB2 := Lib.hid hb2
  have HBL := Lib.hid hblk
  have HO := Lib.hid ho
  have NO := Lib.hid no
  clear hb0 hv hb2 hblk ho no
  refine (callsIn_wide (n := 0)).1 ?_
  refine callsIn_of_wp Try.func35 rfl trivial ?_ rfl
  simp only [Try.ntmps35, List.size_toArray, List.length_cons, List.length_nil, Nat.reduceAdd, Nat.reduceSub, Array.replicate_succ, Array.replicate_zero, List.push_toArray, List.append_toArray, List.nil_append, List.cons_append]
  gi_wp2_with fail
  refine (callsIn_wide.2 HC.out).mono ?_
  rintro e9 w1 ⟨c, v', hc1, hc2, rfl, hc4, hc5⟩
  obtain ⟨os, cs, rfl, hs1, hs2⟩ := hc4.form
  have HP := Lib.hid hc1
  have HL := Lib.hid hc2
  have HS := Lib.hid (fun i hi => hc4.at i hi)
  have HB1 : Hid (Below w0.heap.size w0 w1) := below5 HB2.out hc5
  have HBL1 := Lib.hid (HBL.out.below hc5)
  have HWW : Hid (Below w.heap.size w w1) := below5 HB0.out (below5 HB2.out hc5)
  have hgl : ((grp c).length : Int) ≤ 1000 := by have := grp_len c; omega
  clear hc1 hc2 hc4 hc5 hW2
  gi_wp2_with fail
  gi_loopw [9] (fun vi W => ∃ i : Nat, i ≤ (grp c).length ∧ vi = .int .i64 i ∧ Hid (∀ j (h : j < (grp c).length), j < i → hasKey o t (grp c)[j] = false) ∧ Below w1.heap.size w1 W) (fun vi _ => (grp c).length - (intOf vi).toNat)
  case atStart => exact ⟨0, Nat.zero_le _, rfl, (fun j h h0 => absurd h0 (by omega)), Below.refl _ _⟩
  case round =>
    obtain ⟨i, hi, rfl, HN, hb⟩ := hrel
    have HB := Lib.hid hb
    have hbk := HBL1.out.below hb
    have HBK := Lib.hid hbk
    have a0 : wr.cell? ⟨w0.heap.size, 0, none⟩ = some _ := hbk.cell 0
    have a1 : wr.cell? ⟨w0.heap.size, 1, none⟩ = some _ := hbk.cell 1
    have a2 : wr.cell? ⟨w0.heap.size, 2, none⟩ = some _ := hbk.cell 2
    have a3 : wr.cell? ⟨w0.heap.size, 3, none⟩ = some _ := hbk.cell 3
    have z0 := hbk.frozen 0
    have z1 := hbk.frozen 1
    have z2 := hbk.frozen 2
    have z3 := hbk.frozen 3
    clear hb hbk
    by_cases hlt : i < (grp c).length
    case neg =>
      have hlz : ¬ ((i : Int) < ((grp c).length : Int)) := by omega
      gi_wp2_with fail
      obtain ⟨W5, hW5⟩ : ∃ W, (((wr.setCell ⟨w0.heap.size, 0, none⟩ (.slice none 0 0)).setCell ⟨w0.heap.size, 1, none⟩ (.int .i64 0)).setCell ⟨w0.heap.size, 2, none⟩ (.int .u32 0)).setCell ⟨w0.heap.size, 3, none⟩ (.slice none 0 0) = W := ⟨_, rfl⟩
      have hbl5 : Blk w0.heap.size #[.slice none 0 0, .int .i64 0, .int .u32 0, .slice none 0 0] 57 W5 := by subst hW5; exact (((HBK.out.setAt 0 _).setAt 1 _).setAt 2 _).setAt 3 _
      have hb5 : Below w0.heap.size w0 W5 := by
        subst hW5
        exact ((((below5 HB1.out HB.out).setCell (p := ⟨w0.heap.size, 0, none⟩) (Nat.le_refl _) _).setCell (p := ⟨w0.heap.size, 1, none⟩) (Nat.le_refl _) _).setCell (p := ⟨w0.heap.size, 2, none⟩) (Nat.le_refl _) _).setCell (p := ⟨w0.heap.size, 3, none⟩) (Nat.le_refl _) _
      have HBL5 := Lib.hid hbl5
      have HB5 := Lib.hid hb5
      have b0 : W5.cell? ⟨w0.heap.size, 0, none⟩ = some _ := hbl5.cell 0
      have b1 : W5.cell? ⟨w0.heap.size, 1, none⟩ = some _ := hbl5.cell 1
      have b2 : W5.cell? ⟨w0.heap.size, 2, none⟩ = some _ := hbl5.cell 2
      have b3 : W5.cell? ⟨w0.heap.size, 3, none⟩ = some _ := hbl5.cell 3
      rw [hW5]
      have HW5 := Lib.hid hW5
      clear hbl5 hb5 hW5 a0 a1 a2 a3 z0 z1 z2 z3
      refine bodyPost_ret (v := .tuple #[.agg #[.slice none 0 0, .int .i64 0, .int .u32 0, .slice none 0 0], .bool false]) (by simp at b0 b1 b2 b3; simp [results, Try.results35, go_sem, b0, b1, b2, b3]) rfl ?_
      refine ⟨c, _, _, HP.out, HL.out, rfl, ?_, HB5.out⟩
      unfold ROfV
      rw [find_none (fun j hj => HN.out j hj (by omega))]
      exact ⟨rfl, rfl⟩
    case pos =>
    have hlz : (i : Int) < ((grp c).length : Int) := by omega
    obtain ⟨ga, rfl, x, xs, po, no, qo, od, cd, e1, e3, e4, e5⟩ := HS.out i hlt
    obtain ⟨e, he⟩ : ∃ e, ga.add (i * 4) = e := ⟨_, rfl⟩
    obtain ⟨c0, c1, c2, c3⟩ := e5 wr HB.out
    rw [he] at c0 c1 c2 c3
    have HRO := Lib.hid e3
    have HDA := Lib.hid e4
    have HE1 := Lib.hid e1
    have hxk : x.1.2.owner = x.1.2.owner := rfl
    obtain ⟨z, hz⟩ : ∃ z, Nm.same x.1.2.owner o = z := ⟨_, rfl⟩
    have HZ := Lib.hid hz
    obtain ⟨b, hbt⟩ : ∃ b, (x.1.2.type == t) = b := ⟨_, rfl⟩
    have HKEY : Hid (hasKey o t (grp c)[i] = (b && z)) := by show hasKey o t _ = _; rw [e1, ← hz, ← hbt]; rfl
    have HSM : Hid (∀ W', Below w1.heap.size w1 W' → Calls Try.prog 62 #[.slice po no qo, .slice oo o.length co] W' (Gives (.bool z) W')) := fun W' hW => by
      have := refSame_any _ _ x.1.2.owner o W' (HRO.out.below (below5 HWW.out hW)) (HO.out.below (below5 HB1.out hW)) x.2.2.owner NO.out
      rw [hz] at this; exact this
    have HRX : Hid (∀ W', Below w1.heap.size w1 W' → W'.cell? e = some (.slice po no qo) ∧ W'.cell? ⟨e.block, e.off + 1, none⟩ = some (.int .i64 x.1.2.type) ∧ W'.cell? ⟨e.block, e.off + 2, none⟩ = some (.int .u32 ((Rs.ttl x.1.2 (plE (grp c)[i]) : Nat) : Int)) ∧ W'.cell? ⟨e.block, e.off + 3, none⟩ = some (.slice od (grp c)[i].length cd)) := fun W' hW => by
      have := e5 W' hW
      rw [he] at this; exact this
    clear e1 e3 e4 e5 hz hxk HS HC
    cases b with
    | false =>
      gi_wp2_with fail
      refine ⟨⟨i + 1, hlt, by go_num, ?_, HB.out⟩, by simp [intOf] <;> omega⟩
      show ∀ j (h : j < (grp c).length), j < i + 1 → _
      intro j hj hjk
      by_cases hji : j < i
      · exact HN.out j hj hji
      · have hji : j = i := by omega
        subst hji
        rw [HKEY.out, Bool.false_and]
    | true =>
      cases z with
      | false =>
        gi_wp2_with (gi_at_call 62; refine (callsIn_wide.2 (HSM.out wr HB.out)).mono ?_; rintro e9 wd ⟨rfl, b9⟩; have HBD := Lib.hid (below5 HB.out b9); have HBKD := Lib.hid (HBK.out.below b9); clear a0 a1 a2 a3 z0 z1 z2 z3 c0 c1 c2 c3 b9; obtain ⟨c0, c1, c2, c3⟩ := HRX.out wd HBD.out; have a0 : wd.cell? ⟨w0.heap.size, 0, none⟩ = some _ := HBKD.out.cell 0; have a1 : wd.cell? ⟨w0.heap.size, 1, none⟩ = some _ := HBKD.out.cell 1; have a2 : wd.cell? ⟨w0.heap.size, 2, none⟩ = some _ := HBKD.out.cell 2; have a3 : wd.cell? ⟨w0.heap.size, 3, none⟩ = some _ := HBKD.out.cell 3; have z0 := HBKD.out.frozen 0; have z1 := HBKD.out.frozen 1; have z2 := HBKD.out.frozen 2; have z3 := HBKD.out.frozen 3)
        refine ⟨⟨i + 1, hlt, by go_num, ?_, HBD.out⟩, by simp [intOf] <;> omega⟩
        show ∀ j (h : j < (grp c).length), j < i + 1 → _
        intro j hj hjk
        by_cases hji : j < i
        · exact HN.out j hj hji
        · have hji : j = i := by omega
          subst hji
          rw [HKEY.out, Bool.and_false]
      | true =>
        gi_wp2_with (gi_at_call 62; refine (callsIn_wide.2 (HSM.out wr HB.out)).mono ?_; rintro e9 wd ⟨rfl, b9⟩; have HBD := Lib.hid (below5 HB.out b9); have HBKD := Lib.hid (HBK.out.below b9); clear a0 a1 a2 a3 z0 z1 z2 z3 c0 c1 c2 c3 b9; obtain ⟨c0, c1, c2, c3⟩ := HRX.out wd HBD.out; have a0 : wd.cell? ⟨w0.heap.size, 0, none⟩ = some _ := HBKD.out.cell 0; have a1 : wd.cell? ⟨w0.heap.size, 1, none⟩ = some _ := HBKD.out.cell 1; have a2 : wd.cell? ⟨w0.heap.size, 2, none⟩ = some _ := HBKD.out.cell 2; have a3 : wd.cell? ⟨w0.heap.size, 3, none⟩ = some _ := HBKD.out.cell 3; have z0 := HBKD.out.frozen 0; have z1 := HBKD.out.frozen 1; have z2 := HBKD.out.frozen 2; have z3 := HBKD.out.frozen 3)
        obtain ⟨W5, hW5⟩ : ∃ W, (((wd.setCell ⟨w0.heap.size, 0, none⟩ (.slice po no qo)).setCell ⟨w0.heap.size, 1, none⟩ (.int .i64 x.1.2.type)).setCell ⟨w0.heap.size, 2, none⟩ (.int .u32 ((Rs.ttl x.1.2 (plE (grp c)[i]) : Nat) : Int))).setCell ⟨w0.heap.size, 3, none⟩ (.slice od (grp c)[i].length cd) = W := ⟨_, rfl⟩
        have hbl5 : Blk w0.heap.size #[.slice po no qo, .int .i64 x.1.2.type, .int .u32 ((Rs.ttl x.1.2 (plE (grp c)[i]) : Nat) : Int), .slice od (grp c)[i].length cd] 57 W5 := by subst hW5; exact (((HBKD.out.setAt 0 _).setAt 1 _).setAt 2 _).setAt 3 _
        have hb5 : Below w0.heap.size w0 W5 := by
          subst hW5
          exact ((((below5 HB1.out HBD.out).setCell (p := ⟨w0.heap.size, 0, none⟩) (Nat.le_refl _) _).setCell (p := ⟨w0.heap.size, 1, none⟩) (Nat.le_refl _) _).setCell (p := ⟨w0.heap.size, 2, none⟩) (Nat.le_refl _) _).setCell (p := ⟨w0.heap.size, 3, none⟩) (Nat.le_refl _) _
        have HBL5 := Lib.hid hbl5
        have HB5 := Lib.hid hb5
        have b0 : W5.cell? ⟨w0.heap.size, 0, none⟩ = some _ := hbl5.cell 0
        have b1 : W5.cell? ⟨w0.heap.size, 1, none⟩ = some _ := hbl5.cell 1
        have b2 : W5.cell? ⟨w0.heap.size, 2, none⟩ = some _ := hbl5.cell 2
        have b3 : W5.cell? ⟨w0.heap.size, 3, none⟩ = some _ := hbl5.cell 3
        rw [hW5]
        have HW5 := Lib.hid hW5
        clear hbl5 hb5 hW5 a0 a1 a2 a3 z0 z1 z2 z3
        refine bodyPost_ret (v := .tuple #[.agg #[.slice po no qo, .int .i64 x.1.2.type, .int .u32 ((Rs.ttl x.1.2 (plE (grp c)[i]) : Nat) : Int), .slice od (grp c)[i].length cd], .bool true]) (by simp at b0 b1 b2 b3; simp [results, Try.results35, go_sem, b0, b1, b2, b3]) rfl ?_
        refine ⟨c, _, _, HP.out, HL.out, rfl, ?_, HB5.out⟩
        unfold ROfV
        rw [find_at hlt (fun j hj hji => HN.out j hj hji) (by rw [HKEY.out]; rfl)]
        refine ⟨_, rfl, ⟨x, xs, po, no, qo, od, cd, HE1.out, rfl, HRO.out, ?_⟩, rfl⟩
        have hd := HDA.out.cells_kept (CellsKept.below HBD.out)
        have hoff := hd.off (by have := HE1.out; rw [show (grp c)[i] = x :: xs from this]; simp) HBKD.out
        have h9 := (((hd.setC hoff 0 (.slice po no qo)).setC hoff 1 (.int .i64 x.1.2.type)).setC hoff 2 (.int .u32 ((Rs.ttl x.1.2 (plE (grp c)[i]) : Nat) : Int))).setC hoff 3 (.slice od (grp c)[i].length cd)
        rw [show _ = W5 from HW5.out] at h9
        exact h9
end Go.Proofs.Ytneghhbclefmoaa
end
section
namespace Go.Proofs.Ytneghhbclefmoaa
open Go.RowKit Go.Shelf Go.Sort
set_option maxRecDepth 100000

def ownK {w : World} (o : List (List UInt8)) : List (El w) → Bool
  | [] => false
  | x :: _ => Nm.same x.1.2.owner o
def typK {w : World} : List (El w) → Int
  | [] => 0
  | x :: _ => x.1.2.type
def tysK {w : World} (o : List (List UInt8)) (ks : List (List (El w))) : List Int := (ks.filter (ownK o)).map typK
def RTyR {w : World} (l : List (El w)) (o : List (List UInt8)) (w0 : World) (e : Ending) (w' : World) : Prop :=
  ∃ (c : List (El w)) (v' : Value), plE c = Rc.canon (plE l) ∧ c.length ≤ l.length ∧ e = .returned v' ∧ Sl v' ((tysK o (grp c)).map I64) w' ∧ Below w0.heap.size w0 w'
set_option maxHeartbeats 4000000 in
theorem refTypes_any {w w0 : World} (v vo : Value) (l : List (El w)) (o : List (List UInt8)) (hb0 : Below w.heap.size w w0) (hv : RecsRd v (l.map (·.1)) w0) (na : l.length ≤ 1000) (ho : Rd vo o w0) (no : NB o) :
    Calls Try.prog 37 #[v, vo] w0 (RTyR l o w0) := by
  obtain ⟨oo, co, rfl, _, _⟩ := ho.form
  have HC := Lib.hid (refSets_any v l hb0 hv na)
  have HB0 := Lib.hid hb0
  have HO := Lib.hid ho
  have NO := Lib.hid no
  clear hb0 hv ho no
  refine (callsIn_wide (n := 0)).1 ?_
  refine callsIn_of_wp Try.func37 rfl trivial ?_ rfl
  simp only [Try.ntmps37, List.size_toArray, List.length_cons, List.length_nil, Nat.reduceAdd, Nat.reduceSub, Array.replicate_succ, Array.replicate_zero, List.push_toArray, List.append_toArray, List.nil_append, List.cons_append]
  gi_wp2_with (gi_at_call 29; refine (callsIn_wide.2 HC.out).mono ?_; rintro e9 w1 ⟨c, v', hc1, hc2, rfl, hc4, hc5⟩)
  obtain ⟨os, cs, rfl, hs1, hs2⟩ := hc4.form
  have HP := Lib.hid hc1
  have HL := Lib.hid hc2
  have HS := Lib.hid (fun i hi => hc4.at i hi)
  have HB1 := Lib.hid hc5
  have HWW : Hid (Below w.heap.size w w1) := below5 HB0.out hc5
  have hgl : ((grp c).length : Int) ≤ 1000 := by have := grp_len c; omega
  clear hc1 hc2 hc4 hc5
  gi_wp2_with fail
  gi_loopw [5, 7] (fun v5 vi W => ∃ (i : Nat) (zs : List Int), i ≤ (grp c).length ∧ vi = .int .i64 i ∧ Hid (zs = tysK o ((grp c).take i)) ∧ zs.length ≤ i ∧ Below w1.heap.size w1 W ∧ Row (fun g => w1.heap.size ≤ g) 3 1 v5 zs.length (zs.map I64) W) (fun _ vi _ => (grp c).length - (intOf vi).toNat)
  case atStart => exact ⟨0, [], Nat.zero_le _, rfl, rfl, Nat.le_refl _, Below.refl _ _, Row.nil _ _ _ _⟩
  case round =>
    obtain ⟨i, zs, hi, rfl, HZS, hzl, hb, hrow⟩ := hrel
    have HB := Lib.hid hb
    have HR := Lib.hid hrow
    obtain ⟨o5, c5, rfl⟩ := hrow.form
    clear hb hrow
    by_cases hlt : i < (grp c).length
    case neg =>
      have hlz : ¬ ((i : Int) < ((grp c).length : Int)) := by omega
      obtain rfl : i = (grp c).length := by omega
      gi_wp2_with fail
      go_ret
      refine ⟨c, _, HP.out, HL.out, rfl, ?_, below5 HB1.out HB.out⟩
      have h1 : zs = _ := HZS.out
      rw [List.take_length] at h1
      rw [← h1]
      exact Row.sl (by rw [List.length_map]; exact HR.out)
    case pos =>
    have hlz : (i : Int) < ((grp c).length : Int) := by omega
    obtain ⟨ga, rfl, x, xs, po, no, qo, od, cd, e1, e3, e4, e5⟩ := HS.out i hlt
    obtain ⟨e, he⟩ : ∃ e, ga.add (i * 4) = e := ⟨_, rfl⟩
    obtain ⟨c0, c1, _, _⟩ := e5 wr HB.out
    rw [he] at c0 c1
    have HRO := Lib.hid e3
    have htk : tysK o ((grp c).take (i + 1)) = tysK o ((grp c).take i) ++ if Nm.same x.1.2.owner o then [x.1.2.type] else [] := by
      unfold tysK
      rw [List.take_succ_eq_append_getElem hlt, e1, List.filter_append, List.map_append]
      congr 1
      show List.map typK (List.filter (ownK o) [x :: xs]) = _
      by_cases h : Nm.same x.1.2.owner o = true
      · rw [List.filter_cons_of_pos (by exact h), if_pos h]; rfl
      · rw [List.filter_cons_of_neg (by exact h), if_neg h]; rfl
    have HTK := Lib.hid htk
    obtain ⟨z, hz⟩ : ∃ z, Nm.same x.1.2.owner o = z := ⟨_, rfl⟩
    have HZ := Lib.hid hz
    have HSM : Hid (∀ W', Below w1.heap.size w1 W' → Calls Try.prog 62 #[.slice po no qo, .slice oo o.length co] W' (Gives (.bool z) W')) := fun W' hW => by
      have := refSame_any _ _ x.1.2.owner o W' (HRO.out.below (below5 HWW.out hW)) (HO.out.below (below5 HB1.out hW)) x.2.2.owner NO.out
      rw [hz] at this; exact this
    have HRX : Hid (∀ W', Below w1.heap.size w1 W' → W'.cell? e = some (.slice po no qo) ∧ W'.cell? ⟨e.block, e.off + 1, none⟩ = some (.int .i64 x.1.2.type)) := fun W' hW => by
      obtain ⟨q0, q1, _⟩ := e5 W' hW
      rw [he] at q0 q1; exact ⟨q0, q1⟩
    clear e1 e3 e4 e5 hz htk HS HC
    cases z with
    | false =>
      gi_wp2_with (gi_at_call 62; refine (callsIn_wide.2 (HSM.out wr HB.out)).mono ?_; rintro e9 wd ⟨rfl, b9⟩; have HBD := Lib.hid (below5 HB.out b9); have HRD := Lib.hid (HR.out.below b9); clear c0 c1 b9; obtain ⟨c0, c1⟩ := HRX.out wd HBD.out)
      refine ⟨⟨i + 1, zs, hlt, by go_num, ?_, by omega, HBD.out, HRD.out⟩, by simp [intOf] <;> omega⟩
      show zs = _
      rw [HTK.out, HZ.out, ← show zs = _ from HZS.out]; simp
    | true =>
      gi_wp2_with (first | (gi_at_call 62; refine (callsIn_wide.2 (HSM.out wr HB.out)).mono ?_; rintro e9 wd ⟨rfl, b9⟩; have HBD := Lib.hid (below5 HB.out b9); have HRD := Lib.hid (HR.out.below b9); clear c0 c1 b9; obtain ⟨c0, c1⟩ := HRX.out wd HBD.out; have hnew := GRd.new [.int .i64 x.1.2.type] rfl (by simp [Value.oneCell']) wd 3; have HW9 : Hid (Below w1.heap.size w1 (wd.alloc (.cells #[.int .i64 x.1.2.type] 3))) := HBD.out.alloc HBD.out.size _; have HR9 := Lib.hid (HRD.out.alloc (.cells #[.int .i64 x.1.2.type] 3)); have HN9 := Lib.hid hnew; have HZ9 : Hid (w1.heap.size ≤ (wd.alloc (.cells #[.int .i64 x.1.2.type] 3)).heap.size) := HW9.out.size; clear hnew) | (gi_at_builtin; refine append_g (fun g => w1.heap.size ≤ g) 3 _ 1 8 info_int rfl (by decide) rfl _ _ _ Try.underlying67 rfl _ zs.length (zs.map fun z => [I64 z]) (by rfl) (by rw [show (zs.map fun z => [I64 z]).flatten = zs.map I64 by rw [← flatten_one (zs.map I64), List.map_map]; rfl]; exact HR9.out) _ [[.int .i64 x.1.2.type]] (by rfl) HN9.out (by simp; omega) (by omega) HZ9.out ?_; intro v10 w10 hrow10 hgr10))
      have hb10 := HW9.out.grown hgr10 HW9.out.size (fun g hg => HR9.out.2 g hg)
      refine ⟨⟨i + 1, zs ++ [x.1.2.type], hlt, by go_num, ?_, by simp; omega, hb10, ?_⟩, by simp [intOf] <;> omega⟩
      · show zs ++ _ = _
        rw [HTK.out, HZ.out, ← show zs = _ from HZS.out]; rfl
      · have h2 : (List.map (fun z => [I64 z]) zs).flatten = zs.map I64 := by rw [← flatten_one (zs.map I64), List.map_map]; rfl
        rw [List.length_append, List.map_append]
        simpa [h2] using hrow10
end Go.Proofs.Ytneghhbclefmoaa
end
section
namespace Go.Proofs.Ytneghhbclefmoaa
open Go.RowKit Go.Shelf Go.Sort
set_option maxRecDepth 100000

set_option maxHeartbeats 4000000 in
theorem refTargets_any {w w0 : World} (po : Option Addr) (no qo : Nat) (t : Int) (tt : Nat) (od : Option Addr) (n cd : Nat) (k : List (El w)) (hb0 : Below w.heap.size w w0) (hd : DatsRd (.slice od n cd) k w0) (nk : k.length ≤ 1000) :
    Calls Try.prog 32 #[.agg #[.slice po no qo, .int .i64 t, .int .u32 (tt : Int), .slice od n cd]] w0 fun e w' => ∃ v, e = .returned v ∧ NmsRd v (Rs.targets t (plE k)) w' ∧ Below w0.heap.size w0 w' := by
  have hnk : n = k.length := by obtain ⟨_, _, e, _⟩ := hd; cases e; rfl
  have HD := Lib.hid hd.el
  have HB0 := Lib.hid hb0
  have HNK := Lib.hid hnk
  have lo : (n : Int) ≤ 1000 := by omega
  obtain ⟨W1, hW1⟩ : ∃ W1, w0.alloc (.cells #[.slice po no qo, .int .i64 t, .int .u32 (tt : Int), .slice od n cd] 57) = W1 := ⟨_, rfl⟩
  have HB1 : Hid (Below w0.heap.size w0 W1) := by show Below _ _ _; rw [← hW1]; exact (Below.refl _ _).alloc (Nat.le_refl _) _
  have HW1 := Lib.hid hW1
  have HBX : Hid (Blk w0.heap.size #[.slice po no qo, .int .i64 t, .int .u32 (tt : Int), .slice od n cd] 57 W1) := by show Blk _ _ _ _; rw [← hW1]; exact Blk.new w0 _ _
  clear hd hb0 hnk nk hW1
  rcases hl : Rs.leads t with _ | _
  · obtain ⟨t1, t2, t3, t4, t5⟩ := Rs.leads_not hl
    have HL := Lib.hid hl
    have HT : Hid (Rs.targets t (plE k) = []) := by show _ = _; unfold Rs.targets; rw [if_neg (by rw [HL.out]; exact Bool.false_ne_true)]
    clear hl
    refine (callsIn_wide (n := 0)).1 ?_
    refine callsIn_of_wp Try.func32 rfl trivial ?_ rfl
    simp only [Try.ntmps32, List.size_toArray, List.length_cons, List.length_nil, Nat.reduceAdd, Nat.reduceSub, Array.replicate_succ, Array.replicate_zero, List.push_toArray, List.append_toArray, List.nil_append, List.cons_append]
    gi_wp2_with fail
    rw [HW1.out]
    go_ret
    exact ⟨_, rfl, by rw [HT.out]; exact ⟨[], rfl, Row.sl (R := fun _ => True) (e := 22) (Row.nil _ _ _ _), fun i h => by simp at h⟩, HB1.out⟩
  · have hq : Rs.targets t (plE k) = (plE k).filterMap fun r => r.names.head? := by unfold Rs.targets; rw [if_pos hl]
    rw [hq]
    have ht := Rs.leads_cases hl
    clear hl hq
    rcases ht with rfl | rfl | rfl | rfl | rfl
    all_goals
      refine (callsIn_wide (n := 0)).1 ?_
      refine callsIn_of_wp Try.func32 rfl trivial ?_ rfl
      simp only [Try.ntmps32, List.size_toArray, List.length_cons, List.length_nil, Nat.reduceAdd, Nat.reduceSub, Array.replicate_succ, Array.replicate_zero, List.push_toArray, List.append_toArray, List.nil_append, List.cons_append]
      gi_wp2_with fail
      rw [HW1.out]
      clear HW1
      gi_loopw [3, 4] (fun v3 v17 W => ∃ (i : Nat) (ys : List Value) (ns : List (List (List UInt8))), i ≤ n ∧ v17 = .int .i64 i ∧ Hid (ns = (plE (k.take i)).filterMap (fun r => r.names.head?) ∧ ys.length = ns.length ∧ ys.length ≤ i ∧ ∀ j (h : j < ys.length) (h' : j < ns.length), Rd ys[j] ns[j] w) ∧ Below W1.heap.size W1 W ∧ Row (fun g => W1.heap.size ≤ g) 22 1 v3 ys.length ys W) (fun _ v17 _ => n - (intOf v17).toNat)
      case atStart => exact ⟨0, [], [], Nat.zero_le _, rfl, ⟨rfl, rfl, Nat.le_refl _, fun j h => by simp at h⟩, Below.refl _ _, Row.nil _ _ _ _⟩
      case round =>
        obtain ⟨i, ys, ns, hi, rfl, HI, hbx, hrow⟩ := hrel
        have hb := below5 HB1.out hbx
        have HX1 := Lib.hid hbx
        have s3 : wr.cell? ⟨w0.heap.size, 3, none⟩ = some (.slice od n cd) := (HBX.out.below hbx).cell 3
        clear hbx
        by_cases hlt : i < n
        · have hlz : (i : Int) < (n : Int) := by omega
          have hik : i < k.length := by rw [← HNK.out]; exact hlt
          obtain ⟨x, hx⟩ : ∃ x, k[i] = x := ⟨_, rfl⟩
          obtain ⟨us, p1, q1, p2, n2, q2, p3, n3, q3, p4, n4, q4, ex, hu, hul, hur, _⟩ := x.data
          obtain ⟨ga, rfl, e0, e1, e2, e3, e4⟩ := HD.out _ hb i hik _ _ _ _ _ (by rw [hx]; exact ex)
          have htk : k.take (i + 1) = k.take i ++ [x] := by rw [List.take_succ_eq_append_getElem hik, hx]
          have HTK := Lib.hid htk
          have HUR := Lib.hid hur
          have HB := Lib.hid hb
          have HU := Lib.hid hu
          have HR := Lib.hid hrow
          have HUL := Lib.hid hul
          obtain ⟨m, hm⟩ : ∃ m, us.length = m := ⟨_, rfl⟩
          rw [hm] at e1
          have HM := Lib.hid hm
          clear hx ex htk hur hb hu hrow hul hm
          rcases Nat.eq_zero_or_pos m with hm0 | hm0
          · subst hm0
            have hnil : x.1.2.names = [] := List.length_eq_zero_iff.1 (by rw [← HUL.out]; exact HM.out)
            have HNIL := Lib.hid hnil
            clear hnil
            gi_wp2_with fail
            refine ⟨⟨i + 1, ys, ns, hlt, by go_num, ?_, HX1.out, HR.out⟩, by simp [intOf]; omega⟩
            obtain ⟨h1, h2, h3, h4⟩ := HI.out
            refine ⟨?_, h2, by omega, h4⟩
            rw [HTK.out, plE_snoc, List.filterMap_append, ← h1]
            simp [HNIL.out]
          · have hmz : (0 : Int) < (m : Int) := by omega
            have hp2 : decide (0 < m) = true := decide_eq_true hm0
            have hu0 : 0 < us.length := by rw [HM.out]; exact hm0
            have hn0 : 0 < x.1.2.names.length := by rw [← HUL.out]; exact hu0
            obtain ⟨a1, rfl, c1⟩ := HU.out.cells wr (below5 HB0.out HB.out) 0 hu0
            rw [add_zero'] at c1
            have hrd := HUR.out 0 hu0 hn0
            obtain ⟨y, hy⟩ : ∃ y, us[0] = y := ⟨_, rfl⟩
            rw [hy] at c1 hrd
            obtain ⟨oy, cy, rfl, _, _⟩ := hrd.form
            obtain ⟨ly, hly⟩ : ∃ ly, x.1.2.names[0].length = ly := ⟨_, rfl⟩
            rw [hly] at c1 hrd
            have HRD := Lib.hid hrd
            have hrb : Row (fun g => W1.heap.size ≤ g) 22 1 u3 ys.length ys (wr.alloc (.cells #[.slice oy ly cy] 22)) := HR.out.alloc _
            have HXB : Hid (Below W1.heap.size W1 (wr.alloc (.cells #[.slice oy ly cy] 22))) := HX1.out.alloc HX1.out.size _
            have hnb := GRd.new [.slice oy ly cy] rfl (by simp [Value.oneCell']) wr 22
            have HRB := Lib.hid hrb
            have HNB := Lib.hid hnb
            have hyi : ys.length ≤ 1000 := by have := HI.out; omega
            clear hrd hy hly hu0 hrb hnb
            gi_wp2_with (gi_at_builtin; refine append_g (fun g => W1.heap.size ≤ g) 22 _ 1 24 info_nm rfl (by decide) rfl _ _ _ Try.underlying60 rfl _ ys.length (ys.map fun y => [y]) (by rfl) (by rw [flatten_one]; exact HRB.out) _ [[.slice oy ly cy]] (by rfl) HNB.out (by simp; omega) (by omega) (by have := HXB.out.size; exact this) ?_; intro v10 w10 hrow10 hgr10)
            have hb10 := HXB.out.grown hgr10 HXB.out.size (fun g hg => HRB.out.2 g hg)
            rw [List.flatten_append, flatten_one] at hrow10
            gi_wp2_with fail
            refine ⟨⟨i + 1, ys ++ [.slice oy ly cy], ns ++ [x.1.2.names[0]], hlt, by go_num, ?_, hb10, by rw [List.length_append]; exact hrow10⟩, by simp [intOf]; omega⟩
            obtain ⟨h1, h2, h3, h4⟩ := HI.out
            refine ⟨?_, by simp [h2], by simp; omega, fun j hj hj' => ?_⟩
            · rw [HTK.out, plE_snoc, List.filterMap_append, ← h1]
              rw [List.filterMap_cons_some (b := x.1.2.names[0]) (by rw [List.head?_eq_getElem?, List.getElem?_eq_getElem hn0])]; rfl
            · by_cases hjl : j < ys.length
              · rw [List.getElem_append_left hjl, List.getElem_append_left (by omega)]; exact h4 j hjl (by omega)
              · have : j = ys.length := by simp at hj; omega
                subst this
                rw [List.getElem_append_right (Nat.le_refl _), List.getElem_append_right (by omega)]
                simpa using HRD.out
        · have hlz : ¬ ((i : Int) < (n : Int)) := by omega
          obtain rfl : i = n := by omega
          obtain ⟨h1, h2, h3, h4⟩ := HI.out
          rw [List.take_of_length_le (by rw [← HNK.out]; exact Nat.le_refl _)] at h1
          have hnm : NmsRd u3 ns wr := ⟨ys, h2, Row.sl hrow, fun j h h' => (h4 j h h').below (below5 HB0.out hb)⟩
          have HNM := Lib.hid hnm
          have H1 := Lib.hid h1
          have HB := Lib.hid hb
          clear h1 h2 h3 h4 hrow hb hnm
          gi_wp2_with fail
          go_ret
          exact ⟨_, rfl, by rw [← H1.out]; exact HNM.out, HB.out⟩
end Go.Proofs.Ytneghhbclefmoaa
end
section
namespace Go.Proofs.Ytneghhbclefmoaa
open Go.RowKit Go.Shelf Go.Sort
set_option maxRecDepth 100000

theorem NmsRd.form {v : Value} {ns : List (List (List UInt8))} {W : World} (h : NmsRd v ns W) : ∃ o cap, v = .slice o ns.length cap ∧ ns.length ≤ cap ∧ cap ≤ 9223372036854775807 := by
  obtain ⟨us, h1, h2, h3⟩ := h
  obtain ⟨o, cap, e, h4, h5⟩ := h2.form
  exact ⟨o, cap, by rw [e, h1], by omega, by unfold maxLen at h5; exact h5⟩
set_option maxHeartbeats 1000000 in
theorem isLen_any (v u : Value) (a b : List (List UInt8)) (w : World) (hv : Rd v a w) (hu : Rd u b w) (ha : a.length ≤ 1000) (hb : b.length ≤ 1000) :
    Calls Try.prog 33 #[v, u] w (Gives (.bool (a == b)) w) := by
  obtain ⟨o, cap, rfl, h1, h2⟩ := hv.form
  obtain ⟨o', cap', rfl, h1', h2'⟩ := hu.form
  have HC := Lib.hid hv.cells
  have HD := Lib.hid hu.cells
  have na : (a.length : Int) ≤ 1000 := by omega
  have nb : (b.length : Int) ≤ 1000 := by omega
  clear hv hu ha hb
  have e0 : ∀ wr W : World, W.heap = wr.heap → ∀ p, W.cell? p = wr.cell? p := fun wr W h p => by unfold World.cell?; rw [h]
  by_cases hab : a.length = b.length
  · have hab' : ((a.length : Int) != b.length) = false := by simp [hab]
    have HAB := Lib.hid hab
    clear hab
    go_enter Try.func33, Try.ntmps33
    go_wp2
    go_loopw [5] (fun i wr => ∃ k : Nat, Nm.isTo a b k ∧ i = .int .i64 k ∧ Below w.heap.size w wr) (fun i _ => a.length - (intOf i).toNat)
    case atStart => exact ⟨0, ⟨by omega, fun j _ _ h => by omega⟩, rfl, Below.refl _ _⟩
    case round =>
      obtain ⟨k, hto, rfl, hb⟩ := hrel
      by_cases hlt : k < a.length
      · have hlt' : k < b.length := by have := HAB.out; omega
        obtain ⟨x, rfl, e1⟩ := HC.out _ hb k hlt
        obtain ⟨y, rfl, e2⟩ := HD.out _ hb k hlt'
        by_cases he : a[k] = b[k]
        · have HT := Lib.hid (hto.step hlt hlt' he)
          rw [← he] at e2
          clear hto he
          go_wp2_with fail
          go_quiet (fail)
          go_wp2_with fail
          exact ⟨⟨k + 1, HT.out, by go_num, below_drewN hb _⟩, by simp [intOf]; omega⟩
        · have HF := Lib.hid (Nm.is_not hlt hlt' he)
          have hs : (a[k] == b[k]) = false := by simpa using he
          clear hto he
          go_wp2_with fail
          go_quiet (fail)
          go_wp2_with fail
          go_ret
          exact ⟨by rw [HF.out]; rfl, below_drewN hb _⟩
      · have HF := Lib.hid (hto.done hlt HAB.out)
        go_wp2
        go_ret
        exact ⟨by rw [HF.out]; rfl, hb⟩
  · have hab' : ((a.length : Int) != b.length) = true := by simp; omega
    have HF := Lib.hid (Nm.is_len hab)
    go_enter Try.func33, Try.ntmps33
    go_wp2
    go_ret
    exact ⟨by rw [HF.out]; rfl, Below.refl _ _⟩
set_option maxHeartbeats 4000000 in
theorem lawIs_any (va vb : List Value) (r : Rc.PRec) (w : World) (ha : DatRd va r w) (hb : DatRd vb r w) (rb : RB r) :
    Calls Try.prog 87 #[.agg va.toArray, .agg vb.toArray] w (TrE w) := by
  obtain ⟨vn, vm, vt, vr, rfl, a1, a2, a3, a4⟩ := ha
  obtain ⟨un, um, ut, ur, rfl, b1, b2, b3, b4⟩ := hb
  obtain ⟨p1, q1, rfl, _⟩ := a1.form
  obtain ⟨p2, q2, rfl, _⟩ := a2.form
  obtain ⟨p3, q3, rfl, _⟩ := a3.form
  obtain ⟨p4, q4, rfl, _⟩ := Sl.form a4
  obtain ⟨r1, t1, rfl, _⟩ := b1.form
  obtain ⟨r2, t2, rfl, _⟩ := b2.form
  obtain ⟨r3, t3, rfl, _⟩ := b3.form
  obtain ⟨r4, t4, rfl, _⟩ := Sl.form b4
  have A1 := Lib.hid a1
  have A2 := Lib.hid a2
  have A3 := Lib.hid a3
  have A4 := Lib.hid a4
  have B1 := Lib.hid b1
  have B2 := Lib.hid b2
  have B3 := Lib.hid b3
  have B4 := Lib.hid b4
  have hlm : (numC r.nums).length = r.nums.length := by unfold numC; simp
  have hl4 : (r.raw.map fun b : UInt8 => Value.int .u8 (b.toNat : Int)).length = r.raw.length := by simp
  rw [hlm] at A2 B2 ⊢
  rw [hl4]
  have e4 : Hid (BtRd (.slice p4 r.raw.length q4) r.raw w) := by rw [← hl4]; exact A4.out
  have f4 : Hid (BtRd (.slice r4 r.raw.length t4) r.raw w) := by rw [← hl4]; exact B4.out
  have RBr := Lib.hid rb
  clear a1 a2 a3 a4 b1 b2 b3 b4 A4 B4 hlm hl4 rb
  obtain ⟨Wb, hWb⟩ : ∃ W, (w.alloc (.cells #[.int .i64 r.type, .slice p1 r.names.length q1, .slice p2 r.nums.length q2, .slice p3 r.texts.length q3, .slice p4 r.raw.length q4] 77)).alloc (.cells #[.int .i64 r.type, .slice r1 r.names.length t1, .slice r2 r.nums.length t2, .slice r3 r.texts.length t3, .slice r4 r.raw.length t4] 77) = W := ⟨_, rfl⟩
  have HB : Hid (Below w.heap.size w Wb) := by show Below _ _ _; rw [← hWb]; exact ((Below.refl _ _).alloc (Nat.le_refl _) _).alloc (by simp) _
  have HA0 : Hid (Blk w.heap.size #[.int .i64 r.type, .slice p1 r.names.length q1, .slice p2 r.nums.length q2, .slice p3 r.texts.length q3, .slice p4 r.raw.length q4] 77 Wb) := by show Blk _ _ _ _; rw [← hWb]; exact (Blk.new w _ _).alloc _
  have HB0 : Hid (Blk (w.heap.size + 1) #[.int .i64 r.type, .slice r1 r.names.length t1, .slice r2 r.nums.length t2, .slice r3 r.texts.length t3, .slice r4 r.raw.length t4] 77 Wb) := by
    show Blk _ _ _ _
    have := Blk.new (w.alloc (.cells #[.int .i64 r.type, .slice p1 r.names.length q1, .slice p2 r.nums.length q2, .slice p3 r.texts.length q3, .slice p4 r.raw.length q4] 77)) #[.int .i64 r.type, .slice r1 r.names.length t1, .slice r2 r.nums.length t2, .slice r3 r.texts.length t3, .slice r4 r.raw.length t4] 77
    rw [World.size_alloc] at this
    rw [← hWb]; exact this
  have hca := conv_bt (e4.out.below HB.out)
  have hcb := conv_bt (f4.out.below HB.out)
  have a0 : Wb.cell? ⟨w.heap.size, 0, none⟩ = some (.int .i64 r.type) := HA0.out.cell 0
  have a1 : Wb.cell? ⟨w.heap.size, 1, none⟩ = some (.slice p1 r.names.length q1) := HA0.out.cell 1
  have a2 : Wb.cell? ⟨w.heap.size, 2, none⟩ = some (.slice p2 r.nums.length q2) := HA0.out.cell 2
  have a3 : Wb.cell? ⟨w.heap.size, 3, none⟩ = some (.slice p3 r.texts.length q3) := HA0.out.cell 3
  have a4 : Wb.cell? ⟨w.heap.size, 4, none⟩ = some (.slice p4 r.raw.length q4) := HA0.out.cell 4
  have b0 : Wb.cell? ⟨w.heap.size + 1, 0, none⟩ = some (.int .i64 r.type) := HB0.out.cell 0
  have b1 : Wb.cell? ⟨w.heap.size + 1, 1, none⟩ = some (.slice r1 r.names.length t1) := HB0.out.cell 1
  have b2 : Wb.cell? ⟨w.heap.size + 1, 2, none⟩ = some (.slice r2 r.nums.length t2) := HB0.out.cell 2
  have b3 : Wb.cell? ⟨w.heap.size + 1, 3, none⟩ = some (.slice r3 r.texts.length t3) := HB0.out.cell 3
  have b4 : Wb.cell? ⟨w.heap.size + 1, 4, none⟩ = some (.slice r4 r.raw.length t4) := HB0.out.cell 4
  refine (callsIn_wide (n := 0)).1 ?_
  refine callsIn_of_wp Try.func87 rfl trivial ?_ rfl
  simp only [Try.ntmps87, List.size_toArray, List.length_cons, List.length_nil, Nat.reduceAdd, Nat.reduceSub, Array.replicate_succ, Array.replicate_zero, List.push_toArray, List.append_toArray, List.nil_append, List.cons_append]
  gi_wp2_with fail
  clear a0 a1 a2 a3 a4 b0 b1 b2 b3 b4 hca hcb
  have RN : Hid (r.names.length ≤ 1000 ∧ r.nums.length ≤ 1000) := ⟨RBr.out.names.1, RBr.out.nums.1⟩
  gi_loopw [5] (fun vi W => ∃ i : Nat, i ≤ r.names.length ∧ vi = .int .i64 i ∧ Below Wb.heap.size Wb W) (fun vi _ => r.names.length - (intOf vi).toNat)
  case atStart => exact ⟨0, Nat.zero_le _, rfl, Below.refl _ _⟩
  case round =>
    obtain ⟨i, hi, rfl, hb⟩ := hrel
    have HBW := Lib.hid hb
    have HAW := Lib.hid (HA0.out.below hb)
    have HCW := Lib.hid (HB0.out.below hb)
    have hn1 : (r.names.length : Int) ≤ 1000 := by have := RN.out; omega
    have hn2 : (r.nums.length : Int) ≤ 1000 := by have := RN.out; omega
    have a0 : wr.cell? ⟨w.heap.size, 0, none⟩ = some (.int .i64 r.type) := HAW.out.cell 0
    have a1 : wr.cell? ⟨w.heap.size, 1, none⟩ = some (.slice p1 r.names.length q1) := HAW.out.cell 1
    have a2 : wr.cell? ⟨w.heap.size, 2, none⟩ = some (.slice p2 r.nums.length q2) := HAW.out.cell 2
    have a3 : wr.cell? ⟨w.heap.size, 3, none⟩ = some (.slice p3 r.texts.length q3) := HAW.out.cell 3
    have a4 : wr.cell? ⟨w.heap.size, 4, none⟩ = some (.slice p4 r.raw.length q4) := HAW.out.cell 4
    have b0 : wr.cell? ⟨w.heap.size + 1, 0, none⟩ = some (.int .i64 r.type) := HCW.out.cell 0
    have b1 : wr.cell? ⟨w.heap.size + 1, 1, none⟩ = some (.slice r1 r.names.length t1) := HCW.out.cell 1
    have b2 : wr.cell? ⟨w.heap.size + 1, 2, none⟩ = some (.slice r2 r.nums.length t2) := HCW.out.cell 2
    have b3 : wr.cell? ⟨w.heap.size + 1, 3, none⟩ = some (.slice r3 r.texts.length t3) := HCW.out.cell 3
    have b4 : wr.cell? ⟨w.heap.size + 1, 4, none⟩ = some (.slice r4 r.raw.length t4) := HCW.out.cell 4
    clear hb
    by_cases hlt : i < r.names.length
    · have hlz : (i : Int) < (r.names.length : Int) := by omega
      have hwb := below5 HB.out HBW.out
      have HWB := Lib.hid hwb
      obtain ⟨us, u1, u2, u3⟩ := A1.out
      obtain ⟨vs, v1, v2, v3⟩ := B1.out
      obtain ⟨ga, rfl, c1⟩ := u2.cells wr hwb i (by omega)
      obtain ⟨gb, rfl, d1⟩ := v2.cells wr hwb i (by omega)
      have hra := u3 i (by omega) hlt
      have hrb := v3 i (by omega) hlt
      obtain ⟨ya, hya⟩ : ∃ y, us[i]'(by omega) = y := ⟨_, rfl⟩
      obtain ⟨yb, hyb⟩ : ∃ y, vs[i]'(by omega) = y := ⟨_, rfl⟩
      rw [hya] at c1 hra
      rw [hyb] at d1 hrb
      obtain ⟨na, ca, rfl, _, _⟩ := hra.form
      obtain ⟨nb, cb, rfl, _, _⟩ := hrb.form
      obtain ⟨la, hla⟩ : ∃ n, r.names[i].length = n := ⟨_, rfl⟩
      rw [hla] at c1 d1 hra hrb
      obtain ⟨ea, hea⟩ : ∃ e, ga.add i = e := ⟨_, rfl⟩
      obtain ⟨eb, heb⟩ : ∃ e, gb.add i = e := ⟨_, rfl⟩
      rw [hea] at c1
      rw [heb] at d1
      have HCS : Hid (∀ W', Below wr.heap.size wr W' → Cs [(⟨w.heap.size, 1, none⟩, Value.slice (some ga) r.names.length q1), (⟨w.heap.size + 1, 1, none⟩, .slice (some gb) r.names.length t1), (ea, .slice na la ca), (eb, .slice nb la cb)] W') := fun W' hW => ⟨(hW.cell (cell_lt a1)).trans a1, (hW.cell (cell_lt b1)).trans b1, (hW.cell (cell_lt c1)).trans c1, (hW.cell (cell_lt d1)).trans d1, trivial⟩
      have HIS : Hid (∀ W', Below wr.heap.size wr W' → Calls Try.prog 33 #[.slice na la ca, .slice nb la cb] W' (Gives (.bool true) W')) := fun W' hW => by
        have := is_any _ _ r.names[i] r.names[i] W' (hra.below (below5 hwb hW)) (hrb.below (below5 hwb hW)) (RBr.out.names.2 _ (List.getElem_mem _)) (RBr.out.names.2 _ (List.getElem_mem _))
        rw [show (r.names[i] == r.names[i]) = true by simp] at this
        exact this
      clear hwb u1 u2 u3 v1 v2 v3 c1 d1 hra hrb hya hyb hla
      gi_wp2_with fail
      clear a0 a1 a2 a3 a4 b0 b1 b2 b3 b4
      refine drawnH (List.range 12) (Cs [(⟨w.heap.size, 1, none⟩, Value.slice (some ga) r.names.length q1), (⟨w.heap.size + 1, 1, none⟩, .slice (some gb) r.names.length t1), (ea, .slice na la ca), (eb, .slice nb la cb)]) 12 rfl (by kernel_rfl) ?_
      intro wa hwa
      have HWA : Hid (Below wr.heap.size wr wa) := by subst hwa; exact (Below.refl wr.heap.size wr).drew
      have hS := HCS.out wa HWA.out
      clear hwa
      refine takeH 0 (v := ?qav0) (fun _ => trivial) (by rfl) (by kernel_rfl) hS (.inl ⟨by kernel_rfl, fun w1 ⟨x0, x1, x2, x3, _⟩ => ?qay0⟩) ?_
      case qay0 => (go_simp; try first | rfl | (rw [if_pos (by omega)]) | (rw [if_neg (by omega)]) | (rw [if_neg (by simp; omega)]) | (split <;> first | (exfalso; omega) | rfl))
      refine takeH 1 (v := ?qav1) (fun _ => trivial) (by rfl) (by kernel_rfl) hS (.inl ⟨by kernel_rfl, fun w1 ⟨x0, x1, x2, x3, _⟩ => ?qay1⟩) ?_
      case qay1 => (go_simp; try first | rfl | (rw [if_pos (by omega)]) | (rw [if_neg (by omega)]) | (rw [if_neg (by simp; omega)]) | (split <;> first | (exfalso; omega) | rfl))
      refine takeH 2 (v := ?qav2) (fun _ => trivial) (by rfl) (by kernel_rfl) hS (.inl ⟨by kernel_rfl, fun w1 ⟨x0, x1, x2, x3, _⟩ => ?qay2⟩) ?_
      case qay2 => (go_simp; try first | rfl | (rw [if_pos (by omega)]) | (rw [if_neg (by omega)]) | (rw [if_neg (by simp; omega)]) | (split <;> first | (exfalso; omega) | rfl))
      refine takeH 3 (v := ?qav3) (fun _ => trivial) (by rfl) (by kernel_rfl) hS (.inl ⟨by kernel_rfl, fun w1 ⟨x0, x1, x2, x3, _⟩ => ?qay3⟩) ?_
      case qay3 => (go_simp; try first | rfl | (rw [if_pos (by omega)]) | (rw [if_neg (by omega)]) | (rw [if_neg (by simp; omega)]) | (split <;> first | (exfalso; omega) | rfl))
      refine takeH 4 (v := ?qav4) (fun _ => trivial) (by rfl) (by kernel_rfl) hS (.inl ⟨by kernel_rfl, fun w1 ⟨x0, x1, x2, x3, _⟩ => ?qay4⟩) ?_
      case qay4 => (go_simp; try first | rfl | (rw [if_pos (by omega)]) | (rw [if_neg (by omega)]) | (rw [if_neg (by simp; omega)]) | (split <;> first | (exfalso; omega) | rfl))
      refine takeH 5 (v := ?qav5) (fun _ => trivial) (by rfl) (by kernel_rfl) hS (.inl ⟨by kernel_rfl, fun w1 ⟨x0, x1, x2, x3, _⟩ => ?qay5⟩) ?_
      case qay5 => (go_simp; try first | rfl | (rw [if_pos (by omega)]) | (rw [if_neg (by omega)]) | (rw [if_neg (by simp; omega)]) | (split <;> first | (exfalso; omega) | rfl))
      refine takeH 6 (v := ?qav6) (fun _ => trivial) (by rfl) (by kernel_rfl) hS (.inl ⟨by kernel_rfl, fun w1 ⟨x0, x1, x2, x3, _⟩ => ?qay6⟩) ?_
      case qay6 => (go_simp; try first | rfl | (rw [if_pos (by omega)]) | (rw [if_neg (by omega)]) | (rw [if_neg (by simp; omega)]) | (split <;> first | (exfalso; omega) | rfl))
      refine takeH 7 (v := ?qav7) (fun _ => trivial) (by rfl) (by kernel_rfl) hS (.inl ⟨by kernel_rfl, fun w1 ⟨x0, x1, x2, x3, _⟩ => ?qay7⟩) ?_
      case qay7 => (go_simp; try first | rfl | (rw [if_pos (by omega)]) | (rw [if_neg (by omega)]) | (rw [if_neg (by simp; omega)]) | (split <;> first | (exfalso; omega) | rfl))
      simp only [Act.put, List.setIfInBounds_toArray, List.set_cons_succ, List.set_cons_zero]
      refine takeH 8 (v := ?qav8) (fun _ => trivial) (by rfl) (by kernel_rfl) hS (.inl ⟨by kernel_rfl, fun w1 ⟨x0, x1, x2, x3, _⟩ => ?qay8⟩) ?_
      case qay8 => (go_simp; try first | rfl | (rw [if_pos (by omega)]) | (rw [if_neg (by omega)]) | (rw [if_neg (by simp; omega)]) | (split <;> first | (exfalso; omega) | rfl))
      refine takeH 9 (v := ?qav9) (fun _ => trivial) (by rfl) (by kernel_rfl) hS (.inl ⟨by kernel_rfl, fun w1 ⟨x0, x1, x2, x3, _⟩ => ?qay9⟩) ?_
      case qay9 => (go_simp; try first | rfl | (rw [if_pos (by omega)]) | (rw [if_neg (by omega)]) | (rw [if_neg (by simp; omega)]) | (split <;> first | (exfalso; omega) | rfl))
      simp only [Act.put, List.setIfInBounds_toArray, List.set_cons_succ, List.set_cons_zero]
      refine oneH 10 (by rfl) (by kernel_rfl) (fun K hK => ?_)
      gi_wp2_with (gi_at_call 33; refine (callsIn_wide.2 (HIS.out wa HWA.out)).mono ?_; rintro e9 wb ⟨rfl, b9⟩)
      have HWB2 := Lib.hid (below5 HWA.out b9)
      replace hS := HCS.out wb HWB2.out
      refine hK _ _ (fun _ => hS) ?_
      clear hK K b9
      refine takeH 11 (v := ?qbv11) (fun _ => trivial) (by rfl) (by kernel_rfl) hS (.inl ⟨by kernel_rfl, fun w1 ⟨x0, x1, x2, x3, _⟩ => ?qby11⟩) ?_
      case qby11 => (go_simp; try first | rfl | (rw [if_pos (by omega)]) | (rw [if_neg (by omega)]) | (rw [if_neg (by simp; omega)]) | (split <;> first | (exfalso; omega) | rfl))
      simp only [Act.put, List.setIfInBounds_toArray, List.set_cons_succ, List.set_cons_zero]
      refine doneH (by kernel_rfl) ?_
      clear hS
      gi_wp2_with fail
      exact ⟨⟨i + 1, hlt, by go_num, below5 HBW.out HWB2.out⟩, by simp [intOf] <;> omega⟩
    · have hlz : ¬ ((i : Int) < (r.names.length : Int)) := by omega
      gi_wp2_with fail
      clear a0 a1 a2 a3 a4 b0 b1 b2 b3 b4
      have HBW0 := HBW
      generalize wr = wo at *
      gi_loopw [6] (fun vi W => ∃ j : Nat, j ≤ r.nums.length ∧ vi = .int .i64 j ∧ Below wo.heap.size wo W) (fun vi _ => r.nums.length - (intOf vi).toNat)
      case atStart => exact ⟨0, Nat.zero_le _, rfl, Below.refl _ _⟩
      case round =>
        obtain ⟨j, hj, rfl, hb⟩ := hrel
        have HBJ := Lib.hid (below5 HBW0.out hb)
        have HAJ := Lib.hid (HAW.out.below hb)
        have HCJ := Lib.hid (HCW.out.below hb)
        have HBO := Lib.hid hb
        have a0 : wr.cell? ⟨w.heap.size, 0, none⟩ = some (.int .i64 r.type) := HAJ.out.cell 0
        have a1 : wr.cell? ⟨w.heap.size, 1, none⟩ = some (.slice p1 r.names.length q1) := HAJ.out.cell 1
        have a2 : wr.cell? ⟨w.heap.size, 2, none⟩ = some (.slice p2 r.nums.length q2) := HAJ.out.cell 2
        have a3 : wr.cell? ⟨w.heap.size, 3, none⟩ = some (.slice p3 r.texts.length q3) := HAJ.out.cell 3
        have a4 : wr.cell? ⟨w.heap.size, 4, none⟩ = some (.slice p4 r.raw.length q4) := HAJ.out.cell 4
        have b0 : wr.cell? ⟨w.heap.size + 1, 0, none⟩ = some (.int .i64 r.type) := HCJ.out.cell 0
        have b1 : wr.cell? ⟨w.heap.size + 1, 1, none⟩ = some (.slice r1 r.names.length t1) := HCJ.out.cell 1
        have b2 : wr.cell? ⟨w.heap.size + 1, 2, none⟩ = some (.slice r2 r.nums.length t2) := HCJ.out.cell 2
        have b3 : wr.cell? ⟨w.heap.size + 1, 3, none⟩ = some (.slice r3 r.texts.length t3) := HCJ.out.cell 3
        have b4 : wr.cell? ⟨w.heap.size + 1, 4, none⟩ = some (.slice r4 r.raw.length t4) := HCJ.out.cell 4
        clear hb
        by_cases hlt2 : j < r.nums.length
        · have hlz2 : (j : Int) < (r.nums.length : Int) := by omega
          have hwb := below5 HB.out HBJ.out
          have hnl : (numC r.nums).length = r.nums.length := by unfold numC; simp
          obtain ⟨ga, rfl, c1⟩ := A2.out.cells wr hwb j (by rw [hnl]; exact hlt2)
          obtain ⟨gb, rfl, d1⟩ := B2.out.cells wr hwb j (by rw [hnl]; exact hlt2)
          obtain ⟨y, hy⟩ : ∃ y, r.nums[j] = y := ⟨_, rfl⟩
          have hny : ∀ h, (numC r.nums)[j]'h = .int .u32 (y : Int) := fun h => by simp only [numC, List.getElem_map, hy]
          rw [hny] at c1 d1
          obtain ⟨ea, hea⟩ : ∃ e, ga.add j = e := ⟨_, rfl⟩
          obtain ⟨eb, heb⟩ : ∃ e, gb.add j = e := ⟨_, rfl⟩
          rw [hea] at c1
          rw [heb] at d1
          have HCS : Hid (∀ W', Below wr.heap.size wr W' → Cs [(⟨w.heap.size, 2, none⟩, Value.slice (some ga) r.nums.length q2), (⟨w.heap.size + 1, 2, none⟩, .slice (some gb) r.nums.length t2), (ea, .int .u32 (y : Int)), (eb, .int .u32 (y : Int))] W') := fun W' hW => ⟨(hW.cell (cell_lt a2)).trans a2, (hW.cell (cell_lt b2)).trans b2, (hW.cell (cell_lt c1)).trans c1, (hW.cell (cell_lt d1)).trans d1, trivial⟩
          clear hwb hnl hny hy c1 d1
          gi_wp2_with fail
          clear a0 a1 a2 a3 a4 b0 b1 b2 b3 b4
          refine drawnH (List.range 11) (Cs [(⟨w.heap.size, 2, none⟩, Value.slice (some ga) r.nums.length q2), (⟨w.heap.size + 1, 2, none⟩, .slice (some gb) r.nums.length t2), (ea, .int .u32 (y : Int)), (eb, .int .u32 (y : Int))]) 11 rfl (by kernel_rfl) ?_
          intro wa hwa
          have HWA : Hid (Below wr.heap.size wr wa) := by subst hwa; exact (Below.refl wr.heap.size wr).drew
          have hS := HCS.out wa HWA.out
          clear hwa
          refine takeH 0 (v := ?qcv0) (fun _ => trivial) (by rfl) (by kernel_rfl) hS (.inl ⟨by kernel_rfl, fun w1 ⟨x0, x1, x2, x3, _⟩ => ?qcy0⟩) ?_
          case qcy0 => (go_simp; try first | rfl | (rw [if_pos (by omega)]) | (rw [if_neg (by omega)]) | (rw [if_neg (by simp; omega)]) | (split <;> first | (exfalso; omega) | rfl))
          refine takeH 1 (v := ?qcv1) (fun _ => trivial) (by rfl) (by kernel_rfl) hS (.inl ⟨by kernel_rfl, fun w1 ⟨x0, x1, x2, x3, _⟩ => ?qcy1⟩) ?_
          case qcy1 => (go_simp; try first | rfl | (rw [if_pos (by omega)]) | (rw [if_neg (by omega)]) | (rw [if_neg (by simp; omega)]) | (split <;> first | (exfalso; omega) | rfl))
          refine takeH 2 (v := ?qcv2) (fun _ => trivial) (by rfl) (by kernel_rfl) hS (.inl ⟨by kernel_rfl, fun w1 ⟨x0, x1, x2, x3, _⟩ => ?qcy2⟩) ?_
          case qcy2 => (go_simp; try first | rfl | (rw [if_pos (by omega)]) | (rw [if_neg (by omega)]) | (rw [if_neg (by simp; omega)]) | (split <;> first | (exfalso; omega) | rfl))
          refine takeH 3 (v := ?qcv3) (fun _ => trivial) (by rfl) (by kernel_rfl) hS (.inl ⟨by kernel_rfl, fun w1 ⟨x0, x1, x2, x3, _⟩ => ?qcy3⟩) ?_
          case qcy3 => (go_simp; try first | rfl | (rw [if_pos (by omega)]) | (rw [if_neg (by omega)]) | (rw [if_neg (by simp; omega)]) | (split <;> first | (exfalso; omega) | rfl))
          refine takeH 4 (v := ?qcv4) (fun _ => trivial) (by rfl) (by kernel_rfl) hS (.inl ⟨by kernel_rfl, fun w1 ⟨x0, x1, x2, x3, _⟩ => ?qcy4⟩) ?_
          case qcy4 => (go_simp; try first | rfl | (rw [if_pos (by omega)]) | (rw [if_neg (by omega)]) | (rw [if_neg (by simp; omega)]) | (split <;> first | (exfalso; omega) | rfl))
          refine takeH 5 (v := ?qcv5) (fun _ => trivial) (by rfl) (by kernel_rfl) hS (.inl ⟨by kernel_rfl, fun w1 ⟨x0, x1, x2, x3, _⟩ => ?qcy5⟩) ?_
          case qcy5 => (go_simp; try first | rfl | (rw [if_pos (by omega)]) | (rw [if_neg (by omega)]) | (rw [if_neg (by simp; omega)]) | (split <;> first | (exfalso; omega) | rfl))
          refine takeH 6 (v := ?qcv6) (fun _ => trivial) (by rfl) (by kernel_rfl) hS (.inl ⟨by kernel_rfl, fun w1 ⟨x0, x1, x2, x3, _⟩ => ?qcy6⟩) ?_
          case qcy6 => (go_simp; try first | rfl | (rw [if_pos (by omega)]) | (rw [if_neg (by omega)]) | (rw [if_neg (by simp; omega)]) | (split <;> first | (exfalso; omega) | rfl))
          refine takeH 7 (v := ?qcv7) (fun _ => trivial) (by rfl) (by kernel_rfl) hS (.inl ⟨by kernel_rfl, fun w1 ⟨x0, x1, x2, x3, _⟩ => ?qcy7⟩) ?_
          case qcy7 => (go_simp; try first | rfl | (rw [if_pos (by omega)]) | (rw [if_neg (by omega)]) | (rw [if_neg (by simp; omega)]) | (split <;> first | (exfalso; omega) | rfl))
          simp only [Act.put, List.setIfInBounds_toArray, List.set_cons_succ, List.set_cons_zero]
          refine takeH 8 (v := ?qcv8) (fun _ => trivial) (by rfl) (by kernel_rfl) hS (.inl ⟨by kernel_rfl, fun w1 ⟨x0, x1, x2, x3, _⟩ => ?qcy8⟩) ?_
          case qcy8 => (go_simp; try first | rfl | (rw [if_pos (by omega)]) | (rw [if_neg (by omega)]) | (rw [if_neg (by simp; omega)]) | (split <;> first | (exfalso; omega) | rfl))
          refine takeH 9 (v := ?qcv9) (fun _ => trivial) (by rfl) (by kernel_rfl) hS (.inl ⟨by kernel_rfl, fun w1 ⟨x0, x1, x2, x3, _⟩ => ?qcy9⟩) ?_
          case qcy9 => (go_simp; try first | rfl | (rw [if_pos (by omega)]) | (rw [if_neg (by omega)]) | (rw [if_neg (by simp; omega)]) | (split <;> first | (exfalso; omega) | rfl))
          refine takeH 10 (v := ?qcv10) (fun _ => trivial) (by rfl) (by kernel_rfl) hS (.inl ⟨by kernel_rfl, fun w1 ⟨x0, x1, x2, x3, _⟩ => ?qcy10⟩) ?_
          case qcy10 => (go_simp; try first | rfl | (rw [if_pos (by omega)]) | (rw [if_neg (by omega)]) | (rw [if_neg (by simp; omega)]) | (split <;> first | (exfalso; omega) | rfl))
          simp only [Act.put, List.setIfInBounds_toArray, List.set_cons_succ, List.set_cons_zero]
          refine doneH (by kernel_rfl) ?_
          clear hS
          gi_wp2_with fail
          exact ⟨⟨j + 1, hlt2, by go_num, below5 HBO.out HWA.out⟩, by simp [intOf] <;> omega⟩
        · have hlz2 : ¬ ((j : Int) < (r.nums.length : Int)) := by omega
          have HIS := Lib.hid (isLen_any _ _ r.texts r.texts wr (A3.out.below (below5 HB.out HBJ.out)) (B3.out.below (below5 HB.out HBJ.out)) RBr.out.texts RBr.out.texts)
          have hbe : (r.texts == r.texts) = true := by simp
          rw [hbe] at HIS
          clear hbe
          gi_wp2_with (gi_at_call 33; refine (callsIn_wide.2 HIS.out).mono ?_; rintro e9 wb ⟨rfl, b9⟩)
          go_ret
          exact ⟨rfl, below5 (below5 HB.out HBJ.out) b9⟩
end Go.Proofs.Ytneghhbclefmoaa
end
section
namespace Go.Proofs.Ytneghhbclefmoaa
open Go.RowKit Go.Shelf Go.Sort
set_option maxRecDepth 100000

set_option maxHeartbeats 1000000 in
theorem isAll_any {w w0 : World} (v u : Value) (k k' : List (El w)) (hb0 : Below w.heap.size w w0) (hv : DatsRd v k w0) (hu : DatsRd u k' w0) (he : plE k = plE k') (nk : k.length ≤ 1000) (hd : ∀ x ∈ k, DF x.1.2) :
    Calls Try.prog 63 #[v, u] w0 (TrE w0) := by
  have hlen : k'.length = k.length := by have := congrArg List.length he; rw [plE_len, plE_len] at this; exact this.symm
  obtain ⟨ov, cv, rfl, _⟩ := hv.form
  obtain ⟨ou, cu, rfl, _⟩ := hu.form
  have HV := Lib.hid hv.el
  have HU := Lib.hid hu.el
  have HB0 := Lib.hid hb0
  have HE := Lib.hid he
  have HD := Lib.hid hd
  have HLN := Lib.hid hlen
  rw [hlen]
  have lz : (k.length : Int) ≤ 1000 := by omega
  clear hv hu hb0 he hd hlen
  refine (callsIn_wide (n := 0)).1 ?_
  refine callsIn_of_wp Try.func63 rfl trivial ?_ rfl
  simp only [Try.ntmps63, List.size_toArray, List.length_cons, List.length_nil, Nat.reduceAdd, Nat.reduceSub, Array.replicate_succ, Array.replicate_zero, List.push_toArray, List.append_toArray, List.nil_append, List.cons_append]
  gi_wp2_with fail
  gi_loopw [5] (fun vi W => ∃ i : Nat, i ≤ k.length ∧ vi = .int .i64 i ∧ Below w0.heap.size w0 W) (fun vi _ => k.length - (intOf vi).toNat)
  case atStart => exact ⟨0, Nat.zero_le _, rfl, Below.refl _ _⟩
  case round =>
    obtain ⟨i, hi, rfl, hb⟩ := hrel
    have HB := Lib.hid hb
    by_cases hlt : i < k.length
    · have hlz : (i : Int) < (k.length : Int) := by omega
      have hlt' : i < k'.length := by rw [HLN.out]; exact hlt
      obtain ⟨x, hx⟩ : ∃ x, k[i] = x := ⟨_, rfl⟩
      obtain ⟨y, hy⟩ : ∃ y, k'[i] = y := ⟨_, rfl⟩
      have hxy : x.1.2 = y.1.2 := by
        have h1 : (plE k)[i]? = (plE k')[i]? := by rw [HE.out]
        rw [plE, plE, List.getElem?_map, List.getElem?_map, List.getElem?_eq_getElem hlt, List.getElem?_eq_getElem hlt', hx, hy] at h1
        exact Option.some.inj h1
      obtain ⟨us, p1, q1, p2, n2, q2, p3, n3, q3, p4, n4, q4, ex, ha1, ha2, ha3, hdx⟩ := x.data
      obtain ⟨vs, r1, t1, r2, m2, t2, r3, m3, t3, r4, m4, t4, ey, hc1, hc2, hc3, hdy⟩ := y.data
      clear ha1 ha2 ha3 hc1 hc2 hc3
      obtain ⟨ga, rfl, _⟩ := HV.out _ hb i hlt _ _ _ _ _ (by rw [hx]; exact ex)
      obtain ⟨gb, rfl, _⟩ := HU.out _ hb i hlt' _ _ _ _ _ (by rw [hy]; exact ey)
      obtain ⟨ea, hea⟩ : ∃ e, ga.add (i * 5) = e := ⟨_, rfl⟩
      obtain ⟨eb, heb⟩ : ∃ e, gb.add (i * 5) = e := ⟨_, rfl⟩
      have HCS : Hid (∀ W', Below w0.heap.size w0 W' → Cs [(ea, Value.int .i64 x.1.2.type), (⟨ea.block, ea.off + 1, none⟩, .slice p1 us.length q1), (⟨ea.block, ea.off + 2, none⟩, .slice p2 n2 q2), (⟨ea.block, ea.off + 3, none⟩, .slice p3 n3 q3), (⟨ea.block, ea.off + 4, none⟩, .slice p4 n4 q4), (eb, .int .i64 y.1.2.type), (⟨eb.block, eb.off + 1, none⟩, .slice r1 vs.length t1), (⟨eb.block, eb.off + 2, none⟩, .slice r2 m2 t2), (⟨eb.block, eb.off + 3, none⟩, .slice r3 m3 t3), (⟨eb.block, eb.off + 4, none⟩, .slice r4 m4 t4)] W') := fun W' hW => by
        obtain ⟨a, ha, c0, c1, c2, c3, c4⟩ := HV.out _ hW i hlt _ _ _ _ _ (by rw [hx]; exact ex)
        obtain ⟨b, hb, d0, d1, d2, d3, d4⟩ := HU.out _ hW i hlt' _ _ _ _ _ (by rw [hy]; exact ey)
        cases ha; cases hb
        rw [hea] at c0 c1 c2 c3 c4
        rw [heb] at d0 d1 d2 d3 d4
        exact ⟨c0, c1, c2, c3, c4, d0, d1, d2, d3, d4, trivial⟩
      rw [ex] at hdx
      rw [ey] at hdy
      have HDX := Lib.hid hdx
      have HDY := Lib.hid hdy
      have HXY := Lib.hid hxy
      have HDF : Hid (DF x.1.2) := HD.out x (by rw [← hx]; exact List.getElem_mem _)
      clear hb hx hy ex ey hdx hdy hxy
      gi_wp2_with fail
      refine drawnH (List.range 11) (Cs [(ea, Value.int .i64 x.1.2.type), (⟨ea.block, ea.off + 1, none⟩, .slice p1 us.length q1), (⟨ea.block, ea.off + 2, none⟩, .slice p2 n2 q2), (⟨ea.block, ea.off + 3, none⟩, .slice p3 n3 q3), (⟨ea.block, ea.off + 4, none⟩, .slice p4 n4 q4), (eb, .int .i64 y.1.2.type), (⟨eb.block, eb.off + 1, none⟩, .slice r1 vs.length t1), (⟨eb.block, eb.off + 2, none⟩, .slice r2 m2 t2), (⟨eb.block, eb.off + 3, none⟩, .slice r3 m3 t3), (⟨eb.block, eb.off + 4, none⟩, .slice r4 m4 t4)]) 11 rfl (by kernel_rfl) ?_
      intro wa hwa
      have HWA : Hid (Below w0.heap.size w0 wa) := by subst hwa; exact HB.out.drew
      have hS := HCS.out wa HWA.out
      clear hwa
      refine takeH 0 (v := ?qav0) (fun _ => trivial) (by rfl) (by kernel_rfl) hS (.inl ⟨by kernel_rfl, fun w1 ⟨x0, x1, x2, x3, x4, x5, x6, x7, x8, x9, _⟩ => ?qay0⟩) ?_
      case qay0 => (go_simp; try first | rfl | (rw [if_pos (by omega)]) | (rw [if_neg (by omega)]) | (rw [if_neg (by simp; omega)]) | (split <;> first | (exfalso; omega) | rfl))
      refine takeH 1 (v := ?qav1) (fun _ => trivial) (by rfl) (by kernel_rfl) hS (.inl ⟨by kernel_rfl, fun w1 ⟨x0, x1, x2, x3, x4, x5, x6, x7, x8, x9, _⟩ => ?qay1⟩) ?_
      case qay1 => (go_simp; try first | rfl | (rw [if_pos (by omega)]) | (rw [if_neg (by omega)]) | (rw [if_neg (by simp; omega)]) | (split <;> first | (exfalso; omega) | rfl))
      refine takeH 2 (v := ?qav2) (fun _ => trivial) (by rfl) (by kernel_rfl) hS (.inl ⟨by kernel_rfl, fun w1 ⟨x0, x1, x2, x3, x4, x5, x6, x7, x8, x9, _⟩ => ?qay2⟩) ?_
      case qay2 => (go_simp; try first | rfl | (rw [if_pos (by omega)]) | (rw [if_neg (by omega)]) | (rw [if_neg (by simp; omega)]) | (split <;> first | (exfalso; omega) | rfl))
      refine takeH 3 (v := ?qav3) (fun _ => trivial) (by rfl) (by kernel_rfl) hS (.inl ⟨by kernel_rfl, fun w1 ⟨x0, x1, x2, x3, x4, x5, x6, x7, x8, x9, _⟩ => ?qay3⟩) ?_
      case qay3 => (go_simp; try first | rfl | (rw [if_pos (by omega)]) | (rw [if_neg (by omega)]) | (rw [if_neg (by simp; omega)]) | (split <;> first | (exfalso; omega) | rfl))
      refine takeH 5 (v := ?qav5) (fun _ => trivial) (by rfl) (by kernel_rfl) hS (.inl ⟨by kernel_rfl, fun w1 ⟨x0, x1, x2, x3, x4, x5, x6, x7, x8, x9, _⟩ => ?qay5⟩) ?_
      case qay5 => (go_simp; try first | rfl | (rw [if_pos (by omega)]) | (rw [if_neg (by omega)]) | (rw [if_neg (by simp; omega)]) | (split <;> first | (exfalso; omega) | rfl))
      refine takeH 6 (v := ?qav6) (fun _ => trivial) (by rfl) (by kernel_rfl) hS (.inl ⟨by kernel_rfl, fun w1 ⟨x0, x1, x2, x3, x4, x5, x6, x7, x8, x9, _⟩ => ?qay6⟩) ?_
      case qay6 => (go_simp; try first | rfl | (rw [if_pos (by omega)]) | (rw [if_neg (by omega)]) | (rw [if_neg (by simp; omega)]) | (split <;> first | (exfalso; omega) | rfl))
      refine takeH 7 (v := ?qav7) (fun _ => trivial) (by rfl) (by kernel_rfl) hS (.inl ⟨by kernel_rfl, fun w1 ⟨x0, x1, x2, x3, x4, x5, x6, x7, x8, x9, _⟩ => ?qay7⟩) ?_
      case qay7 => (go_simp; try first | rfl | (rw [if_pos (by omega)]) | (rw [if_neg (by omega)]) | (rw [if_neg (by simp; omega)]) | (split <;> first | (exfalso; omega) | rfl))
      refine takeH 8 (v := ?qav8) (fun _ => trivial) (by rfl) (by kernel_rfl) hS (.inl ⟨by kernel_rfl, fun w1 ⟨x0, x1, x2, x3, x4, x5, x6, x7, x8, x9, _⟩ => ?qay8⟩) ?_
      case qay8 => (go_simp; try first | rfl | (rw [if_pos (by omega)]) | (rw [if_neg (by omega)]) | (rw [if_neg (by simp; omega)]) | (split <;> first | (exfalso; omega) | rfl))
      simp only [Act.put, List.setIfInBounds_toArray, List.set_cons_succ, List.set_cons_zero]
      refine oneH 4 (by rfl) (by kernel_rfl) (fun K hK => ?_)
      gi_wp2_with (gi_at_call 39; refine (callsIn_wide.2 (ofD_any [.int .i64 x.1.2.type, .slice p1 us.length q1, .slice p2 n2 q2, .slice p3 n3 q3, .slice p4 n4 q4] x.1.2 w wa HDX.out HDF.out (below5 HB0.out HWA.out))).mono ?_; rintro e9 wb ⟨c0, c1, c2, c3, c4, rfl, hof, b9⟩)
      have HWB := Lib.hid (below5 HWA.out b9)
      have HOF := Lib.hid (hof.dat (below5 HB0.out (below5 HWA.out b9)))
      replace hS := HCS.out wb HWB.out
      refine hK _ _ (fun _ => hS) ?_
      clear hK K b9 hof
      refine oneH 9 (by rfl) (by kernel_rfl) (fun K hK => ?_)
      gi_wp2_with (gi_at_call 87; refine (callsIn_wide.2 (lawIs_any [c0, c1, c2, c3, c4] [.int .i64 y.1.2.type, .slice r1 vs.length t1, .slice r2 m2 t2, .slice r3 m3 t3, .slice r4 m4 t4] x.1.2 wb HOF.out (by rw [HXY.out]; exact HDY.out.below (below5 HB0.out HWB.out)) x.2.2)).mono ?_; rintro e9 wc ⟨rfl, b9⟩)
      have HWC := Lib.hid (below5 HWB.out b9)
      replace hS := HCS.out wc HWC.out
      refine hK _ _ (fun _ => hS) ?_
      clear hK K b9
      refine takeH 10 (v := ?qcv10) (fun _ => trivial) (by rfl) (by kernel_rfl) hS (.inl ⟨by kernel_rfl, fun w1 ⟨x0, x1, x2, x3, x4, x5, x6, x7, x8, x9, _⟩ => ?qcy10⟩) ?_
      case qcy10 => (go_simp; try first | rfl | (rw [if_pos (by omega)]) | (rw [if_neg (by omega)]) | (rw [if_neg (by simp; omega)]) | (split <;> first | (exfalso; omega) | rfl))
      simp only [Act.put, List.setIfInBounds_toArray, List.set_cons_succ, List.set_cons_zero]
      refine doneH (by kernel_rfl) ?_
      clear hS
      gi_wp2_with fail
      exact ⟨⟨i + 1, hlt, by go_num, HWC.out⟩, by simp [intOf] <;> omega⟩
    · have hlz : ¬ ((i : Int) < (k.length : Int)) := by omega
      clear hb
      gi_wp2_with fail
      go_ret
      exact ⟨rfl, HB.out⟩
end Go.Proofs.Ytneghhbclefmoaa
end
section
namespace Go.Proofs.Ytneghhbclefmoaa
open Go.RowKit Go.Shelf Go.Sort
set_option maxRecDepth 100000

namespace Rs
open Rc
/-- what a record's place in the canonical row has but its TTL, it had before -/
theorem put_all {p : PRec → Prop} (hp : ∀ (y : PRec) (t : Nat), p y → p { y with ttl := t }) {x : PRec} (hx : p x) : ∀ {L : List PRec}, (∀ z ∈ L, p z) → ∀ z ∈ put x L, p z
  | [], _, z, hz => by
    simp only [put, List.mem_singleton] at hz; subst hz; exact hx
  | y :: L, h, z, hz => by
    rw [put_cons] at hz
    split at hz
    · rcases List.mem_cons.1 hz with rfl | hz
      · exact h _ List.mem_cons_self
      · exact put_all hp hx (fun z hz => h z (List.mem_cons_of_mem _ hz)) z hz
    · split at hz
      · rcases List.mem_cons.1 hz with rfl | hz
        · split
          · exact hp _ _ (h y List.mem_cons_self)
          · exact h y List.mem_cons_self
        · exact h z (List.mem_cons_of_mem _ hz)
      · rcases List.mem_cons.1 hz with rfl | hz
        · exact hx
        · exact h z hz
theorem foldl_all {p : PRec → Prop} (hp : ∀ (y : PRec) (t : Nat), p y → p { y with ttl := t }) : ∀ (l L : List PRec), (∀ z ∈ l, p z) → (∀ z ∈ L, p z) → ∀ z ∈ l.foldl (fun c x => put x c) L, p z
  | [], _, _, h => h
  | x :: l, L, h1, h2 => foldl_all hp l (put x L) (fun z hz => h1 z (List.mem_cons_of_mem _ hz)) (put_all hp (h1 x List.mem_cons_self) h2)
theorem canon_all {p : PRec → Prop} (hp : ∀ (y : PRec) (t : Nat), p y → p { y with ttl := t }) (l : List PRec) (h : ∀ z ∈ l, p z) : ∀ z ∈ canon l, p z := by
  rw [canon_eq]
  exact foldl_all hp l [] h (by simp)
theorem run_mem {x : PRec} : ∀ {g : List PRec}, run x g = g.length → ∀ z ∈ g, P x z = true
  | [], _, z, hz => by cases hz
  | y :: g, h, z, hz => by
    unfold run at h
    by_cases hy : P x y = true
    · simp only [List.takeWhile_cons, hy, if_true, List.length_cons] at h
      rcases List.mem_cons.1 hz with rfl | hz
      · exact hy
      · exact run_mem (by unfold run; omega) z hz
    · simp [hy] at h
theorem grpF_flat : ∀ (f : Nat) (l : List PRec), l.length ≤ f → (grpF f l).flatten = l
  | 0, l, h => by
    have : l = [] := List.length_eq_zero_iff.1 (by omega)
    subst this; rfl
  | f + 1, [], _ => rfl
  | f + 1, x :: l, h => by
    show (_ :: grpF f _).flatten = _
    have hp := run_pos x l
    rw [List.flatten_cons, grpF_flat f _ (by rw [List.length_drop, List.length_cons]; simp only [List.length_cons] at h; omega), List.take_append_drop]
/-- the heads of the groups ascend -/
theorem grpF_heads : ∀ (f : Nat) (L : List PRec), L.length ≤ f → Strict L → ((grpF f L).map List.head?).Pairwise fun a b => ∀ x y, a = some x → b = some y → cmpK x y < 0
  | 0, _, _, _ => List.Pairwise.nil
  | f + 1, [], _, _ => List.Pairwise.nil
  | f + 1, x :: l, hl, hs => by
    have hp := run_pos x l
    have hs' := List.pairwise_cons.1 hs
    obtain ⟨_, h2⟩ := run_split x hs (fun y hy => by
      rcases List.mem_cons.1 hy with rfl | hy
      · have := cmpK_cm.refl y; omega
      · exact cmp_le_key (by have := hs'.1 y hy; omega))
    have hdl : ((x :: l).drop (run x (x :: l))).length ≤ f := by rw [List.length_drop, List.length_cons]; simp only [List.length_cons] at hl; omega
    show ((_ :: grpF f _).map List.head?).Pairwise _
    rw [List.map_cons]
    refine List.pairwise_cons.2 ⟨fun b hb a c ha hc => ?_, grpF_heads f _ hdl (List.Pairwise.sublist (List.drop_sublist _ _) hs)⟩
    have hax : a = x := by
      rw [List.head?_take, if_neg (by omega)] at ha
      exact (Option.some.inj ha).symm
    obtain ⟨g, hg, rfl⟩ := List.mem_map.1 hb
    have hcm : c ∈ (grpF f ((x :: l).drop (run x (x :: l)))).flatten := List.mem_flatten.2 ⟨g, hg, List.mem_of_mem_head? hc⟩
    rw [grpF_flat f _ hdl] at hcm
    rw [hax]
    exact h2 c hcm
/-- the types of the groups of one owner -/
def tys (o : List (List UInt8)) (gs : List (List PRec)) : List Int := ((gs.filterMap List.head?).filter fun x => Nm.same x.owner o).map PRec.type
theorem strict_ext : ∀ {a b : List Int}, a.Pairwise (· < ·) → b.Pairwise (· < ·) → (∀ z, z ∈ a ↔ z ∈ b) → a = b
  | [], [], _, _, _ => rfl
  | [], y :: b, _, _, h => absurd ((h y).2 List.mem_cons_self) (by simp)
  | x :: a, [], _, _, h => absurd ((h x).1 List.mem_cons_self) (by simp)
  | x :: a, y :: b, ha, hb, h => by
    have ha' := List.pairwise_cons.1 ha
    have hb' := List.pairwise_cons.1 hb
    have hxy : x = y := by
      rcases List.mem_cons.1 ((h x).1 List.mem_cons_self) with e | e
      · exact e
      · rcases List.mem_cons.1 ((h y).2 List.mem_cons_self) with e2 | e2
        · exact e2.symm
        · have h1 := hb'.1 x e
          have h2 := ha'.1 y e2
          omega
    subst hxy
    rw [strict_ext ha'.2 hb'.2 fun z => ⟨fun hz => by
      rcases List.mem_cons.1 ((h z).1 (List.mem_cons_of_mem _ hz)) with e | e
      · have := ha'.1 z hz; omega
      · exact e, fun hz => by
      rcases List.mem_cons.1 ((h z).2 (List.mem_cons_of_mem _ hz)) with e | e
      · have := hb'.1 z hz; omega
      · exact e⟩]
theorem compactUpTo_strict (d : Array Int) (hd : ∀ i j, i ≤ j → j < d.size → d[i]! ≤ d[j]!) : ∀ m, m ≤ d.size → (Lib.compactUpTo d m).Pairwise (· < ·) ∧ ∀ z ∈ Lib.compactUpTo d m, ∃ j, j < m ∧ z = d[j]!
  | 0, _ => ⟨by unfold Lib.compactUpTo; exact List.Pairwise.nil, fun z hz => by unfold Lib.compactUpTo at hz; cases hz⟩
  | m + 1, hm => by
    obtain ⟨h1, h2⟩ := compactUpTo_strict d hd m (by omega)
    rw [Lib.compactUpTo_succ]
    by_cases hk : Lib.keeps d m = true
    · rw [if_pos hk]
      have hk' : m = 0 ∨ d[m]! ≠ d[m - 1]! := by simpa [Lib.keeps] using hk
      refine ⟨List.pairwise_append.2 ⟨h1, List.pairwise_singleton _ _, fun a ha b hb => ?_⟩, fun z hz => ?_⟩
      · rw [List.mem_singleton] at hb
        subst hb
        obtain ⟨j, hj, rfl⟩ := h2 a ha
        have q1 := hd j (m - 1) (by omega) (by omega)
        have q2 := hd (m - 1) m (by omega) (by omega)
        rcases hk' with h0 | h0
        · omega
        · omega
      · rcases List.mem_append.1 hz with hz | hz
        · obtain ⟨j, hj, e⟩ := h2 z hz; exact ⟨j, by omega, e⟩
        · rw [List.mem_singleton] at hz; exact ⟨m, by omega, hz⟩
    · rw [if_neg hk, List.append_nil]
      exact ⟨h1, fun z hz => by obtain ⟨j, hj, e⟩ := h2 z hz; exact ⟨j, by omega, e⟩⟩
theorem compact_strict {zs : List Int} (h : zs.Pairwise (· ≤ ·)) : (Lib.compact zs).Pairwise (· < ·) ∧ ∀ z ∈ Lib.compact zs, z ∈ zs := by
  have hg : ∀ i (hi : i < zs.length), zs.toArray[i]! = zs[i] := fun i hi => by rw [getElem!_pos zs.toArray i (by simpa using hi)]; simp
  have hs : zs.toArray.size = zs.length := by simp
  obtain ⟨h1, h2⟩ := compactUpTo_strict zs.toArray (fun i j hij hj => by
    rw [hs] at hj
    rw [hg i (by omega), hg j hj]
    by_cases e : i = j
    · subst e; exact Int.le_refl _
    · exact List.pairwise_iff_getElem.1 h i j (by omega) hj (by omega)) zs.length (by simp)
  refine ⟨h1, fun z hz => ?_⟩
  obtain ⟨j, hj, rfl⟩ := h2 z hz
  rw [hg j hj]; exact List.getElem_mem hj
theorem types_strict (l : List PRec) (o : List (List UInt8)) : (types l o).Pairwise (· < ·) ∧ ∀ z, z ∈ types l o ↔ ∃ r ∈ l, Nm.same r.owner o = true ∧ r.type = z := by
  have hsrt : (((l.filter fun r => Nm.same r.owner o).map (·.type)).mergeSort fun x y => decide (x ≤ y)).Pairwise (· ≤ ·) := by
    have h := List.pairwise_mergeSort (le := fun x y : Int => decide (x ≤ y)) (by intro a b c; simp; omega) (by intro a b; simp; omega) ((l.filter fun r => Nm.same r.owner o).map (·.type))
    exact h.imp fun {a b} hab => by simpa using hab
  obtain ⟨h1, h2⟩ := compact_strict hsrt
  refine ⟨h1, fun z => ⟨fun hz => ?_, fun hz => ?_⟩⟩
  · obtain ⟨r, hr, e⟩ := List.mem_map.1 (List.mem_mergeSort.1 (h2 z hz))
    obtain ⟨hr1, hr2⟩ := List.mem_filter.1 hr
    exact ⟨r, hr1, hr2, e⟩
  · obtain ⟨r, hr1, hr2, e⟩ := hz
    exact compact_mem (List.mem_mergeSort.2 (List.mem_map.2 ⟨r, List.mem_filter.2 ⟨hr1, hr2⟩, e⟩))
theorem same_congr {a b o : List (List UInt8)} (h : Nm.fold a = Nm.fold b) : Nm.same a o = Nm.same b o := by unfold Nm.same; rw [h]
/-- the groups of the canonical row -/
abbrev G (l : List PRec) : List (List PRec) := grpF (canon l).length (canon l)
theorem G_of {l : List PRec} {r : PRec} (h : r ∈ canon l) : ∃ x xs, x :: xs ∈ G l ∧ P x r = true ∧ r ∈ x :: xs := by
  have hf := grpF_flat (canon l).length (canon l) (Nat.le_refl _)
  rw [← hf] at h
  obtain ⟨g, hg, hr⟩ := List.mem_flatten.1 h
  obtain ⟨x, xs, rfl, _, h3, _⟩ := grp_found hg
  exact ⟨x, xs, hg, run_mem h3 r hr, hr⟩
theorem G_mem {l : List PRec} {g : List PRec} (h : g ∈ G l) {r : PRec} (hr : r ∈ g) : r ∈ canon l := by
  rw [← grpF_flat (canon l).length (canon l) (Nat.le_refl _)]
  exact List.mem_flatten.2 ⟨g, h, hr⟩
theorem types_tys (l : List PRec) (o : List (List UInt8)) : types l o = tys o (G l) := by
  obtain ⟨h1, h2⟩ := types_strict l o
  have hco := canon_of l
  refine strict_ext h1 ?_ fun z => ?_
  · unfold tys
    refine List.pairwise_map.2 ?_
    have h3 := grpF_heads (canon l).length (canon l) (Nat.le_refl _) hco.strict
    have h4 : ((G l).filterMap List.head?).Pairwise fun x y => cmpK x y < 0 := by
      refine List.Pairwise.filterMap (R := fun g g' : List PRec => ∀ x y, g.head? = some x → g'.head? = some y → cmpK x y < 0) List.head? (fun g g' hgg b hb b' hb' => hgg b b' hb hb') (List.pairwise_map.1 h3)
    refine (List.Pairwise.filter _ h4 |> fun h => List.Pairwise.imp_of_mem (fun {a b} ha hb hab => ?_) h)
    have ha' := (List.mem_filter.1 ha).2
    have hb' := (List.mem_filter.1 hb).2
    have hs : Nm.same a.owner b.owner = true := by
      unfold Nm.same at ha' hb' ⊢
      rw [beq_iff_eq] at ha' hb' ⊢
      rw [ha', hb']
    have hz := Nm.cmp_zero a.owner b.owner
    rw [hs, beq_iff_eq] at hz
    unfold cmpK orI at hab
    rw [if_neg (by rw [hz]; simp)] at hab
    unfold Nm.sgn at hab
    split at hab
    · assumption
    · split at hab <;> omega
  · rw [h2]
    unfold tys
    constructor
    · rintro ⟨r, hr, hs, rfl⟩
      obtain ⟨x, hx, e, _⟩ := hco.all r hr
      obtain ⟨y, ys, hy, hp, _⟩ := G_of hx
      unfold P at hp
      rw [Bool.and_eq_true, beq_iff_eq] at hp
      refine List.mem_map.2 ⟨y, List.mem_filter.2 ⟨List.mem_filterMap.2 ⟨_, hy, rfl⟩, ?_⟩, by rw [hp.1, cmp_type e]⟩
      have h5 : Nm.fold y.owner = Nm.fold r.owner := by
        have := hp.2
        unfold Nm.same at this
        rw [beq_iff_eq] at this
        rw [this, cmp_owner e]
      rw [same_congr h5]; exact hs
    · intro hz
      obtain ⟨x, hx, rfl⟩ := List.mem_map.1 hz
      obtain ⟨hx1, hx2⟩ := List.mem_filter.1 hx
      obtain ⟨g, hg, hh⟩ := List.mem_filterMap.1 hx1
      obtain ⟨y, hy, e, _⟩ := hco.some x (G_mem hg (List.mem_of_mem_head? hh))
      exact ⟨y, hy, by rw [← same_congr (cmp_owner e)]; exact hx2, (cmp_type e).symm⟩
def hasP (o : List (List UInt8)) (t : Int) : List PRec → Bool
  | [] => false
  | x :: _ => (x.type == t) && Nm.same x.owner o
theorem mine_find (l : List PRec) (o : List (List UInt8)) (t : Int) : mine l o t = ((G l).find? (hasP o t)).getD [] ∧ ∀ g, (G l).find? (hasP o t) = some g → ∃ x xs, g = x :: xs ∧ run x g = g.length := by
  have hm : mine l o t = (canon l).filter (Q o t) := by unfold mine; exact canon_filter (Q_inv _ _) l
  cases hf : (G l).find? (hasP o t) with
  | none =>
    refine ⟨?_, fun g h => by cases h⟩
    rw [hm]
    show _ = []
    rw [List.filter_eq_nil_iff]
    intro r hr hq
    obtain ⟨x, xs, hx, hp, _⟩ := G_of hr
    have hn := List.find?_eq_none.1 hf _ hx
    refine hn ?_
    unfold P at hp
    unfold Q at hq
    rw [Bool.and_eq_true, beq_iff_eq] at hp hq
    unfold hasP
    rw [Bool.and_eq_true, beq_iff_eq]
    refine ⟨by rw [hp.1, hq.1], ?_⟩
    have h1 := hp.2
    have h2 := hq.2
    unfold Nm.same at h1 h2 ⊢
    rw [beq_iff_eq] at h1 h2 ⊢
    rw [h1, h2]
  | some g =>
    have hg : g ∈ G l := List.mem_of_find?_eq_some hf
    have hk : hasP o t g = true := List.find?_some hf
    obtain ⟨x, xs, rfl, h1, h2, _⟩ := grp_found hg
    refine ⟨?_, fun g h => by cases h; exact ⟨x, xs, rfl, h2⟩⟩
    show _ = x :: xs
    rw [← h1]
    unfold hasP at hk
    rw [Bool.and_eq_true, beq_iff_eq] at hk
    have hs : Nm.fold x.owner = Nm.fold o := by
      have := hk.2
      unfold Nm.same at this
      rwa [beq_iff_eq] at this
    have hQ : Q o t = Q x.owner x.type := by
      funext r
      unfold Q Nm.same
      rw [hk.1, hs]
    unfold mine
    rw [hQ]
end Rs
section
variable {w : World}
theorem tysK_tys (o : List (List UInt8)) : ∀ ks : List (List (El w)), (∀ k ∈ ks, k ≠ []) → tysK o ks = Rs.tys o (ks.map plE)
  | [], _ => rfl
  | k :: ks, h => by
    have ih := tysK_tys o ks (fun k' hk' => h k' (List.mem_cons_of_mem _ hk'))
    match k, h k List.mem_cons_self with
    | [], h0 => exact absurd rfl h0
    | x :: xs, _ =>
      unfold tysK Rs.tys at ih ⊢
      show ((( (x :: xs) :: ks).filter (ownK o)).map typK) = (((x.1.2 :: (ks.map plE).filterMap List.head?).filter fun x => Nm.same x.owner o).map Rc.PRec.type)
      rw [List.filter_cons, List.filter_cons]
      have e : ownK o (x :: xs) = Nm.same x.1.2.owner o := rfl
      rw [e]
      by_cases hs : Nm.same x.1.2.owner o = true
      · rw [if_pos hs, if_pos hs, List.map_cons, List.map_cons, ih]; rfl
      · rw [if_neg hs, if_neg hs, ih]
theorem grp_ne (c : List (El w)) : ∀ k ∈ grp c, k ≠ [] := by
  suffices H : ∀ n (c : List (El w)), c.length ≤ n → ∀ k ∈ grp c, k ≠ [] from H _ c (Nat.le_refl _)
  intro n
  induction n with
  | zero => intro c hc k hk; obtain rfl := List.length_eq_zero_iff.1 (Nat.le_zero.1 hc); cases hk
  | succ n ih =>
    intro c hc k hk
    cases c with
    | nil => cases hk
    | cons x c =>
      rw [grp_cons] at hk
      have hp := run_posE x c
      rcases List.mem_cons.1 hk with rfl | hk
      · intro e
        have := congrArg List.length e
        simp at this; omega
      · exact ih _ (by rw [List.length_drop]; simp only [List.length_cons] at hc ⊢; omega) k hk
theorem find_map (o : List (List UInt8)) (t : Int) : ∀ ks : List (List (El w)), (ks.map plE).find? (Rs.hasP o t) = (ks.find? (hasKey o t)).map plE
  | [] => rfl
  | k :: ks => by
    have e : Rs.hasP o t (plE k) = hasKey o t k := by cases k <;> rfl
    rw [List.map_cons, List.find?_cons, List.find?_cons, e]
    cases hasKey o t k with
    | true => rfl
    | false => exact find_map o t ks
/-- both ways to the types agree -/
theorem tysK_types {c : List (El w)} {l : List Rc.PRec} (h : plE c = Rc.canon l) (o : List (List UInt8)) : tysK o (grp c) = Rs.types l o := by
  rw [tysK_tys o _ (grp_ne c), plE_grp, h, Rs.types_tys]
/-- both ways to one set agree -/
theorem mine_key {c cc : List (El w)} {l : List Rc.PRec} {o : List (List UInt8)} {t : Int} (h : plE c = Rc.canon l) (hc : plE cc = Rs.mine l o t) :
    ((grp c).find? (hasKey o t) = none ∧ cc = []) ∨ ∃ k x xs, (grp c).find? (hasKey o t) = some k ∧ plE k = plE cc ∧ cc = x :: xs ∧ Rs.run x.1.2 (plE cc) = cc.length := by
  obtain ⟨h1, h2⟩ := Rs.mine_find l o t
  have h3 := find_map o t (grp c)
  rw [plE_grp, h] at h3
  rw [h3] at h1 h2
  cases hk : (grp c).find? (hasKey o t) with
  | none =>
    rw [hk] at h1
    refine .inl ⟨rfl, ?_⟩
    have h4 : plE cc = [] := by rw [hc, h1]; rfl
    have := congrArg List.length h4
    rw [plE_len] at this
    exact List.length_eq_zero_iff.1 this
  | some k =>
    rw [hk] at h1 h2
    obtain ⟨x, xs, e1, e2⟩ := h2 _ rfl
    have h4 : plE cc = plE k := by rw [hc, h1]; rfl
    match cc, h4 with
    | [], h4 => rw [e1] at h4; simp [plE] at h4
    | y :: ys, h4 =>
      refine .inr ⟨k, y, ys, rfl, h4.symm, rfl, ?_⟩
      have hy : y.1.2 = x := by rw [e1] at h4; simp [plE] at h4; exact h4.1
      rw [hy, h4, e2, ← h4, plE_len]
/-- two canonical rows of the same have the same groups -/
theorem grp_two {w' : World} {c : List (El w)} {c' : List (El w')} (h : plE c = plE c') : (grp c).length = (grp c').length ∧ ∀ i (h1 : i < (grp c).length) (h2 : i < (grp c').length), plE (grp c)[i] = plE (grp c')[i] := by
  have h0 : (grp c).map plE = (grp c').map plE := by rw [plE_grp, plE_grp, h]
  refine ⟨by have := congrArg List.length h0; simpa using this, fun i h1 h2 => ?_⟩
  have h3 : ((grp c).map plE)[i]? = ((grp c').map plE)[i]? := by rw [h0]
  rw [List.getElem?_map, List.getElem?_map, List.getElem?_eq_getElem h1, List.getElem?_eq_getElem h2] at h3
  exact Option.some.inj h3
theorem DF.ttl {r : Rc.PRec} (h : DF r) (t : Nat) : DF { r with ttl := t } := ⟨h.names, h.nums, h.texts, h.raw, h.name, h.text⟩
theorem df_canon {c : List (El w)} {l : List Rc.PRec} (h : plE c = Rc.canon l) (hd : ∀ r ∈ l, DF r) : ∀ x ∈ c, DF x.1.2 := fun x hx => by
  have h1 : x.1.2 ∈ plE c := List.mem_map.2 ⟨x, hx, rfl⟩
  rw [h] at h1
  exact Rs.canon_all (p := DF) (fun y t hy => hy.ttl t) l hd _ h1
theorem mem_grp {c : List (El w)} {k : List (El w)} (hk : k ∈ grp c) {x : El w} (hx : x ∈ k) : x ∈ c := by
  rw [← grp_flat c]; exact List.mem_flatten.2 ⟨k, hk, hx⟩
end
end Go.Proofs.Ytneghhbclefmoaa
end
section
namespace Go.Proofs.Ytneghhbclefmoaa
open Go.RowKit Go.Shelf Go.Sort
set_option maxRecDepth 100000

set_option maxHeartbeats 1000000 in
theorem is6_any {w w0 : World} (po : Option Addr) (no qo : Nat) (o : List (List UInt8)) (t : Int) (tt : Nat) (od : Option Addr) (n cd : Nat) (k : List (El w)) (pp : Option Addr) (np qp : Nat) (oe : Option Addr) (ce : Nat) (k' : List (El w)) (hb0 : Below w.heap.size w w0) (ho : Rd (.slice po no qo) o w) (hp : Rd (.slice pp np qp) o w) (lo : o.length ≤ 1000) (hd : DatsRd (.slice od n cd) k w0) (he : DatsRd (.slice oe n ce) k' w0) (hk : plE k = plE k') (nk : k.length ≤ 1000) (hf : ∀ x ∈ k, DF x.1.2) :
    Calls Try.prog 30 #[.agg #[.slice po no qo, .int .i64 t, .int .u32 (tt : Int), .slice od n cd], .agg #[.slice pp np qp, .int .i64 t, .int .u32 (tt : Int), .slice oe n ce]] w0 (TrE w0) := by
  obtain ⟨Wb, hWb⟩ : ∃ W, (w0.alloc (.cells #[.slice po no qo, .int .i64 t, .int .u32 (tt : Int), .slice od n cd] 54)).alloc (.cells #[.slice pp np qp, .int .i64 t, .int .u32 (tt : Int), .slice oe n ce] 57) = W := ⟨_, rfl⟩
  have HB : Hid (Below w0.heap.size w0 Wb) := by show Below _ _ _; rw [← hWb]; exact ((Below.refl _ _).alloc (Nat.le_refl _) _).alloc (by simp) _
  have HA0 : Hid (Blk w0.heap.size #[.slice po no qo, .int .i64 t, .int .u32 (tt : Int), .slice od n cd] 54 Wb) := by show Blk _ _ _ _; rw [← hWb]; exact (Blk.new w0 _ _).alloc _
  have HB0 : Hid (Blk (w0.heap.size + 1) #[.slice pp np qp, .int .i64 t, .int .u32 (tt : Int), .slice oe n ce] 57 Wb) := by
    show Blk _ _ _ _
    have := Blk.new (w0.alloc (.cells #[.slice po no qo, .int .i64 t, .int .u32 (tt : Int), .slice od n cd] 54)) #[.slice pp np qp, .int .i64 t, .int .u32 (tt : Int), .slice oe n ce] 57
    rw [World.size_alloc] at this
    rw [← hWb]; exact this
  have HIS : Hid (∀ W', Below w0.heap.size w0 W' → Calls Try.prog 33 #[.slice po no qo, .slice pp np qp] W' (Gives (.bool true) W')) := fun W' hW => by
    have := isLen_any _ _ o o W' (ho.below (below5 hb0 hW)) (hp.below (below5 hb0 hW)) lo lo
    rw [beq_self_eq_true] at this; exact this
  have HAL : Hid (∀ W', Below w0.heap.size w0 W' → Calls Try.prog 63 #[.slice od n cd, .slice oe n ce] W' (TrE W')) := fun W' hW =>
    isAll_any _ _ k k' (below5 hb0 hW) (hd.below hW) (he.below hW) hk nk hf
  clear ho hp hd he hk hf hb0
  have a0 : Wb.cell? ⟨w0.heap.size, 0, none⟩ = some (.slice po no qo) := HA0.out.cell 0
  have b0 : Wb.cell? ⟨w0.heap.size + 1, 0, none⟩ = some (.slice pp np qp) := HB0.out.cell 0
  refine (callsIn_wide (n := 0)).1 ?_
  refine callsIn_of_wp Try.func30 rfl trivial ?_ rfl
  simp only [Try.ntmps30, List.size_toArray, List.length_cons, List.length_nil, Nat.reduceAdd, Nat.reduceSub, Array.replicate_succ, Array.replicate_zero, List.push_toArray, List.append_toArray, List.nil_append, List.cons_append]
  gi_wp2_with (first
    | (gi_at_call 33; refine (callsIn_wide.2 (HIS.out Wb HB.out)).mono ?_; rintro e3 Wc ⟨rfl, b3⟩; have HBC := Lib.hid (below5 HB.out b3); have HAC := Lib.hid (HA0.out.below b3); have HBD := Lib.hid (HB0.out.below b3); clear a0 b0 b3; have a1 : Wc.cell? ⟨w0.heap.size, 1, none⟩ = some (.int .i64 t) := HAC.out.cell 1; have a2 : Wc.cell? ⟨w0.heap.size, 2, none⟩ = some (.int .u32 (tt : Int)) := HAC.out.cell 2; have a3 : Wc.cell? ⟨w0.heap.size, 3, none⟩ = some (.slice od n cd) := HAC.out.cell 3; have b1 : Wc.cell? ⟨w0.heap.size + 1, 1, none⟩ = some (.int .i64 t) := HBD.out.cell 1; have b2 : Wc.cell? ⟨w0.heap.size + 1, 2, none⟩ = some (.int .u32 (tt : Int)) := HBD.out.cell 2; have b3 : Wc.cell? ⟨w0.heap.size + 1, 3, none⟩ = some (.slice oe n ce) := HBD.out.cell 3)
    | (gi_at_call 63; refine (callsIn_wide.2 (HAL.out Wc HBC.out)).mono ?_; rintro e4 Wd ⟨rfl, b4⟩; have HBE := Lib.hid (below5 HBC.out b4); clear a1 a2 a3 b1 b2 b3 b4))
  go_ret
  exact ⟨rfl, HBE.out⟩
section
variable {w : World}
/-- one set, found in both ways -/
theorem two_of {c cc : List (El w)} {l : List Rc.PRec} {o : List (List UInt8)} {t : Int} {v : Value} {W : World} (h : plE c = Rc.canon l) (hc : plE cc = Rs.mine l o t) (hov : ofV cc v W) (hdf : ∀ r ∈ l, DF r) :
    ∃ (po : Option Addr) (no qo : Nat) (ow : List (List UInt8)) (nx : Int) (tt : Nat) (od : Option Addr) (cd : Nat),
      v = .agg #[.slice po no qo, .int .i64 nx, .int .u32 (tt : Int), .slice od cc.length cd] ∧ Rd (.slice po no qo) ow w ∧ ow.length ≤ 1000 ∧ DatsRd (.slice od cc.length cd) cc W ∧ (∀ x ∈ cc, DF x.1.2) ∧
      ∀ (c2 : List (El w)) (v' : Value) (ok : Bool) (W' : World), plE c2 = Rc.canon l → ROfV (grp c2) o t v' ok W' → ok = !cc.isEmpty ∧ ∃ (pp : Option Addr) (np qp : Nat) (oe : Option Addr) (ce : Nat) (k' : List (El w)),
        v' = .agg #[.slice pp np qp, .int .i64 nx, .int .u32 (tt : Int), .slice oe cc.length ce] ∧ Rd (.slice pp np qp) ow w ∧ DatsRd (.slice oe cc.length ce) k' W' ∧ plE cc = plE k' := by
  have hdc : ∀ x ∈ cc, DF x.1.2 := fun x hx => by
    have h1 : x.1.2 ∈ plE cc := List.mem_map.2 ⟨x, hx, rfl⟩
    rw [hc] at h1
    unfold Rs.mine at h1
    exact Rs.canon_all (p := DF) (fun y t hy => hy.ttl t) _ (fun z hz => hdf z (List.mem_filter.1 hz).1) _ h1
  cases cc with
  | nil =>
    have hov' : v = .agg #[.slice none 0 0, .int .i64 0, .int .u32 0, .slice none 0 0] := hov
    refine ⟨none, 0, 0, [], 0, 0, none, 0, hov', Rd.nil w, by simp, DatsRd.nil W, hdc, fun c2 v' ok W' h2 hrv => ?_⟩
    unfold ROfV at hrv
    rcases mine_key h2 hc with ⟨h1, _⟩ | ⟨k, x, xs, h1, _, e, _⟩
    · rw [h1] at hrv
      obtain ⟨rfl, rfl⟩ := hrv
      exact ⟨rfl, none, 0, 0, none, 0, [], rfl, Rd.nil w, DatsRd.nil W', rfl⟩
    · cases e
  | cons x xs =>
    have hrun : Rs.run x.1.2 (plE (x :: xs)) = (x :: xs).length := by
      rcases mine_key h hc with ⟨_, e⟩ | ⟨k, y, ys, _, _, e, hr⟩
      · cases e
      · cases e; exact hr
    obtain ⟨vo, od, cd, rfl, d1, d2⟩ := hov
    rw [hrun, List.take_of_length_le (Nat.le_refl _)] at d2
    obtain ⟨po, qo, rfl, _, _⟩ := d1.form
    refine ⟨po, _, qo, x.1.2.owner, x.1.2.type, Rs.ttl x.1.2 (plE (x :: xs)), od, cd, ?_, d1, x.2.2.owner.1, d2, hdc, fun c2 v' ok W' h2 hrv => ?_⟩
    · rw [hrun, List.take_of_length_le (Nat.le_refl _)]
    · unfold ROfV at hrv
      rcases mine_key h2 hc with ⟨_, e⟩ | ⟨k, y, ys, h1, hk, e, _⟩
      · cases e
      · cases e
        rw [h1] at hrv
        obtain ⟨cs, rfl, ⟨y, ys, pp, np, qp, oe, ce, e1, rfl, e3, e4⟩, rfl⟩ := hrv
        have hlen : k.length = (x :: xs).length := by have := congrArg List.length hk; rwa [plE_len, plE_len] at this
        have hyx : y.1.2 = x.1.2 := by
          rw [e1] at hk
          have := congrArg List.head? hk
          simpa [plE] using this
        rw [hyx] at e3
        rw [hlen] at e4
        refine ⟨rfl, pp, np, qp, oe, ce, k, ?_, e3, e4, hk.symm⟩
        rw [hyx, hk, hlen]
theorem targets_nb {t : Int} {k : List (El w)} {n : List (List UInt8)} (h : n ∈ Rs.targets t (plE k)) : n.length ≤ 1000 := by
  unfold Rs.targets at h
  split at h
  · obtain ⟨r, hr, e⟩ := List.mem_filterMap.1 h
    obtain ⟨x, _, rfl⟩ := List.mem_map.1 hr
    exact (x.2.2.names.2 n (List.mem_of_mem_head? e)).1
  · cases h
theorem targets_len (t : Int) (k : List (El w)) : (Rs.targets t (plE k)).length ≤ k.length := by
  unfold Rs.targets
  split
  · exact Nat.le_trans (List.length_filterMap_le _ _) (by rw [plE_len]; exact Nat.le_refl _)
  · simp
end
end Go.Proofs.Ytneghhbclefmoaa
end
section
namespace Go.Proofs.Ytneghhbclefmoaa
open Go.RowKit Go.Shelf Go.Sort
set_option maxRecDepth 100000

set_option maxHeartbeats 8000000 in
theorem walkSetsAny (v0 : Value) (l0 : List RP) (v1 : Value) (n : List (List UInt8)) (t : Int) (w : World) (h0 : RecsRd v0 l0 w ∧ ∀ x ∈ l0, RN x.2) (h1 : Rd v1 n w) (_h2 : (Lit.int .i64 t).wf = true) :
    Calls Try.prog 6 #[v0, v1, .int .i64 t] w (TrS w) := by
  obtain ⟨h0, hrn⟩ := h0
  obtain ⟨oo, co, rfl⟩ : ∃ o cap, v0 = .slice o l0.length cap := by obtain ⟨_, o, cap, h, _⟩ := h0; exact ⟨o, cap, h⟩
  obtain ⟨on, cn, rfl, _, _⟩ := h1.form
  have HV := Lib.hid h0
  have HRN := Lib.hid hrn
  have HN := Lib.hid h1
  clear h0 hrn h1 _h2
  refine (callsIn_wide (n := 0)).1 ?_
  refine callsIn_of_wp Try.func6 rfl trivial ?_ rfl
  simp only [Try.ntmps6, List.size_toArray, List.length_cons, List.length_nil, Nat.reduceAdd, Nat.reduceSub, Array.replicate_succ, Array.replicate_zero, List.push_toArray, List.append_toArray, List.nil_append, List.cons_append]
  gi_wp2_with fail
  refine (callsIn_wide.2 (known6_any _)).mono ?_
  rintro e w1 ⟨rfl, b1⟩
  have HF := Lib.hid (few5_any _ l0 w1 (HV.out.kept b1))
  have HB1 := Lib.hid b1
  clear b1
  gi_wp2_with fail
  refine (callsIn_wide.2 HF.out).mono ?_
  rintro e w2 ⟨b, rfl, hq, b2⟩
  have HB2 := Lib.hid (below5 HB1.out b2)
  have HQ := Lib.hid hq
  clear HF b2 hq HB1
  cases b with
  | false =>
    gi_wp2_with fail
    go_ret
    exact ⟨rfl, HB2.out⟩
  | true =>
  have HRF := Lib.hid (HQ.out rfl)
  clear HQ
  have HFN := Lib.hid (few_any _ n w2 (HN.out.below HB2.out))
  obtain ⟨z, hz⟩ : ∃ z, Nm.few n = z := ⟨_, rfl⟩
  rw [hz] at HFN
  have HZ := Lib.hid hz
  clear hz
  gi_wp2_with fail
  refine (callsIn_wide.2 HFN.out).mono ?_
  rintro e w3 ⟨rfl, b3⟩
  have HB3 := Lib.hid (below5 HB2.out b3)
  clear b3 HFN
  cases z with
  | false =>
    gi_wp2_with fail
    go_ret
    exact ⟨rfl, HB3.out⟩
  | true =>
  have hrk := HV.out.kept HB3.out
  have NO : Hid (NB n) := NB.few HZ.out
  have HDF0 : Hid (∀ r ∈ l0.map (·.2), DF r) := fun r hr => by
    obtain ⟨x, hx, rfl⟩ := List.mem_map.1 hr
    exact HRF.out.dat x hx
  obtain ⟨l, hL, hL60, hLl⟩ := els_of hrk HRF.out HRN.out
  have hrec : RecsRd (.slice oo l0.length co) (l.map (·.1)) w3 := by rw [hL]; exact hrk
  have HLP : Hid (plE l = l0.map (·.2)) := by show _ = _; rw [← hL, List.map_map]; rfl
  have HOA := Lib.hid (ofAll_any (w0 := w3) _ l (Below.refl _ _) hrec (by omega))
  have HRC := Lib.hid hrec
  clear hrk hrec hL HRF
  gi_wp2_with fail
  refine (callsIn_wide.2 HOA.out).mono ?_
  rintro e w5 ⟨v5, l5, rfl, r5, p5, b5⟩
  obtain ⟨lu, hlu⟩ : ∃ lu, l.map (El.up b5) = lu := ⟨_, rfl⟩
  have hlul : lu.length = l.length := by rw [← hlu, List.length_map]
  have hlup : plE lu = plE l := by rw [← hlu]; exact up_pl b5 l
  have hl5l : l5.length = l.length := by have := congrArg List.length p5; rwa [plE_len, plE_len] at this
  have hru : RecsRd (.slice oo l0.length co) (lu.map (·.1)) w5 := by rw [← hlu, up_fst]; exact HRC.out.kept b5
  have HRU := Lib.hid hru
  have HR5 := Lib.hid r5
  have HB5 := Lib.hid (below5 HB3.out b5)
  have HPU : Hid (plE lu = l0.map (·.2)) := by show _ = _; rw [hlup, HLP.out]
  have HP5 : Hid (plE l5 = l0.map (·.2)) := by show _ = _; rw [p5, HLP.out]
  have lu60 : lu.length ≤ 60 := by omega
  have l560 : l5.length ≤ 60 := by omega
  have HSS := Lib.hid (rsets_any (w0 := w5) _ lu (Below.refl _ _) hru (by omega))
  have hll0 : (l0.map (·.2)).length ≤ 60 := by rw [List.length_map]; omega
  clear hlu hlul hlup hl5l hru r5 p5 HOA HRC HLP b5 hL60 hLl
  gi_wp2_with fail
  refine (callsIn_wide.2 HSS.out).mono ?_
  rintro e w6 ⟨c, v6, hc, hcl, rfl, hsr, b6⟩
  have HXS := Lib.hid (refSets_any (w0 := w6) _ l5 b6 (HR5.out.kept b6) (by omega))
  have HSR := Lib.hid hsr
  have HC : Hid (plE c = Rc.canon (l0.map (·.2))) := by show _ = _; rw [hc, HPU.out]
  have HB6 := Lib.hid b6
  clear HSS hsr hc b6
  obtain ⟨os, cs, rfl, hs1, hs2⟩ := HSR.out.form
  gi_wp2_with fail
  refine (callsIn_wide.2 HXS.out).mono ?_
  rintro e w7 ⟨d, v7, hd, hdl, rfl, hsx, b7⟩
  have hgd : plE c = plE d := by rw [HC.out, hd, HP5.out]
  obtain ⟨hgl, hge⟩ := grp_two hgd
  have hgn := grp_len c
  have hgn2 := grp_len d
  have HDFC := Lib.hid (df_canon HC.out HDF0.out)
  obtain ⟨ox, cx, rfl, hx1, hx2⟩ := hsx.form
  rw [← hgl]
  obtain ⟨gs, hgs⟩ : ∃ gs, grp c = gs := ⟨_, rfl⟩
  obtain ⟨gt, hgt⟩ : ∃ gt, grp d = gt := ⟨_, rfl⟩
  have HGM : Hid (∀ i (h : i < gs.length), ∀ x ∈ gs[i], DF x.1.2) := fun i hi x hx => HDFC.out x (mem_grp (by rw [hgs]; exact List.getElem_mem hi) hx)
  have HGB : Hid (∀ i (h : i < gs.length), gs[i].length ≤ 60) := fun i hi => Nat.le_trans (grp_mem_bound (c := c) (by rw [hgs]; exact List.getElem_mem hi)) (by omega)
  rw [hgs, hgt] at hge hgl
  rw [hgs] at hgn hs1 HSR ⊢
  rw [hgt] at hsx hgn2
  have HGE := Lib.hid hge
  have HGL := Lib.hid hgl
  have glz : (gs.length : Int) ≤ 60 := by omega
  have HSX := Lib.hid hsx
  have HB7 := Lib.hid (below5 HB6.out b7)
  have HB67 := Lib.hid b7
  clear hgs hgt hge hgl hsx b7 hgd hd hdl hcl HXS HDFC hgn2 hx1 hs1 hs2 hx2 hgn
  gi_wp2_with fail
  gi_loopw [10] (fun v10 W => ∃ i : Nat, i ≤ gs.length ∧ v10 = .int .i64 i ∧ Below w7.heap.size w7 W) (fun v10 _ => gs.length - (intOf v10).toNat)
  case atStart => exact ⟨0, Nat.zero_le _, rfl, Below.refl _ _⟩
  case round =>
    obtain ⟨i, hi, rfl, hb⟩ := hrel
    by_cases hlt : i < gs.length
    · have hiz : (i : Int) < (gs.length : Int) := by omega
      have hlt2 : i < gt.length := by rw [← HGL.out]; exact hlt
      obtain ⟨ga, rfl, hat⟩ := HSR.out.at i hlt
      obtain ⟨gb, hgb, hbt⟩ := HSX.out.at i hlt2
      cases hgb
      obtain ⟨g, hg⟩ : ∃ g, gs[i] = g := ⟨_, rfl⟩
      obtain ⟨h, hh⟩ : ∃ h, gt[i] = h := ⟨_, rfl⟩
      have hgh := HGE.out i hlt hlt2
      have hgm := HGM.out i hlt
      have hgB := HGB.out i hlt
      rw [hg] at hat hgh hgm hgB
      rw [hh] at hbt hgh
      obtain ⟨x, xs, po, no', qo, od, cd, rfl, hro, hdt, hce⟩ := hat
      obtain ⟨y, ys, pp, np', qp, oe, ce, rfl, hrp, het, hcf⟩ := hbt
      have hyx : y.1.2 = x.1.2 := by
        have := congrArg List.head? hgh
        simpa [plE] using this.symm
      have hyl : (y :: ys).length = (x :: xs).length := by have := congrArg List.length hgh; rw [plE_len, plE_len] at this; exact this.symm
      rw [hyx] at hrp hcf
      rw [hyl] at het hcf
      rw [← hgh] at hcf
      obtain ⟨_, _, eno, _, _⟩ := hro.form
      obtain ⟨_, _, enp, _, _⟩ := hrp.form
      cases eno
      cases enp
      obtain ⟨no, hno⟩ : ∃ no, x.1.2.owner.length = no := ⟨_, rfl⟩
      rw [hno] at hro hrp hce hcf
      have hnb : x.1.2.owner.length ≤ 1000 := x.2.2.owner.1
      obtain ⟨m, hm⟩ : ∃ m, (x :: xs).length = m := ⟨_, rfl⟩
      obtain ⟨tt, htt⟩ : ∃ tt, Rs.ttl x.1.2 (plE (x :: xs)) = tt := ⟨_, rfl⟩
      obtain ⟨e, he⟩ : ∃ e, ga.add (i * 4) = e := ⟨_, rfl⟩
      obtain ⟨f, hf⟩ : ∃ f, gb.add (i * 4) = f := ⟨_, rfl⟩
      obtain ⟨nx, hnx⟩ : ∃ nx, x.1.2.type = nx := ⟨_, rfl⟩
      rw [hm] at hdt hgB het
      rw [hm, htt, he, hnx] at hce
      rw [hm, htt, hf, hnx] at hcf
      have HCS : Hid (∀ W', Below w7.heap.size w7 W' → Cs [(e, Value.slice po no qo), (⟨e.block, e.off + 1, none⟩, .int .i64 nx), (⟨e.block, e.off + 2, none⟩, .int .u32 (tt : Int)), (⟨e.block, e.off + 3, none⟩, .slice od m cd), (f, .slice pp no qp), (⟨f.block, f.off + 1, none⟩, .int .i64 nx), (⟨f.block, f.off + 2, none⟩, .int .u32 (tt : Int)), (⟨f.block, f.off + 3, none⟩, .slice oe m ce)] W') := fun W' hW => by
        obtain ⟨c0, c1, c2, c3⟩ := hce W' (below5 HB67.out hW)
        obtain ⟨d0, d1, d2, d3⟩ := hcf W' hW
        exact ⟨c0, c1, c2, c3, d0, d1, d2, d3, trivial⟩
      have HIS : Hid (∀ W', Below w7.heap.size w7 W' → Calls Try.prog 30 #[.agg #[.slice po no qo, .int .i64 nx, .int .u32 (tt : Int), .slice od m cd], .agg #[.slice pp no qp, .int .i64 nx, .int .u32 (tt : Int), .slice oe m ce]] W' (TrE W')) := fun W' hW =>
        is6_any po no qo x.1.2.owner nx tt od m cd (x :: xs) pp no qp oe ce (y :: ys) (below5 HB7.out hW) hro hrp hnb (hdt.below (below5 HB67.out hW)) (het.below hW) hgh (by omega) hgm
      have HTA : Hid (∀ W', Below w7.heap.size w7 W' → Calls Try.prog 31 #[.agg #[.slice po no qo, .int .i64 nx, .int .u32 (tt : Int), .slice od m cd]] W' fun e w' => ∃ v, e = .returned v ∧ NmsRd v (Rs.targets nx (plE (x :: xs))) w' ∧ Below W'.heap.size W' w') := fun W' hW =>
        targets_any po no qo nx tt od m cd (x :: xs) (below5 HB7.out hW) (hdt.below (below5 HB67.out hW)) (by omega)
      have HTB : Hid (∀ W', Below w7.heap.size w7 W' → Calls Try.prog 32 #[.agg #[.slice pp no qp, .int .i64 nx, .int .u32 (tt : Int), .slice oe m ce]] W' fun e w' => ∃ v, e = .returned v ∧ NmsRd v (Rs.targets nx (plE (x :: xs))) w' ∧ Below W'.heap.size W' w') := fun W' hW => by
        rw [hgh]; exact refTargets_any pp no qp nx tt oe m ce (y :: ys) (below5 HB7.out hW) (het.below hW) (by omega)
      obtain ⟨ns, hns⟩ : ∃ ns, Rs.targets nx (plE (x :: xs)) = ns := ⟨_, rfl⟩
      have HNB : Hid (∀ q ∈ ns, q.length ≤ 1000) := fun q hq => targets_nb (by rw [hns]; exact hq)
      have hnl : ns.length ≤ 60 := by rw [← hns]; exact Nat.le_trans (targets_len _ _) (by omega)
      rw [hns] at HTA HTB
      have HB := Lib.hid hb
      clear hg hh hgh hgm hgB hro hrp hce hcf hdt het hyx hyl hno hnb hm htt hnx hns hb
      gi_wp2_with fail
      refine drawnH [3, 7, 9] (Cs [(e, Value.slice po no qo), (⟨e.block, e.off + 1, none⟩, .int .i64 nx), (⟨e.block, e.off + 2, none⟩, .int .u32 (tt : Int)), (⟨e.block, e.off + 3, none⟩, .slice od m cd), (f, .slice pp no qp), (⟨f.block, f.off + 1, none⟩, .int .i64 nx), (⟨f.block, f.off + 2, none⟩, .int .u32 (tt : Int)), (⟨f.block, f.off + 3, none⟩, .slice oe m ce)]) 10 rfl (by kernel_rfl) ?_
      intro wa hwa
      have HBA : Hid (Below w7.heap.size w7 wa) := by subst hwa; exact HB.out.drew
      have hS := HCS.out wa HBA.out
      clear hwa
      refine takeP 0 (v := ?qav0) (fun _ => trivial) (by rfl) (by kernel_rfl) (.inl ⟨by kernel_rfl, fun w1 _ => ?qay0⟩) ?_
      case qay0 => (go_simp; try first | rfl | (rw [if_pos (by omega)]) | (rw [if_neg (by omega)]) | (rw [if_neg (by simp; omega)]) | (split <;> first | (exfalso; omega) | rfl))
      refine takeP 1 (v := ?qav1) (fun _ => trivial) (by rfl) (by kernel_rfl) (.inl ⟨by kernel_rfl, fun w1 _ => ?qay1⟩) ?_
      case qay1 => (go_simp; try first | rfl | (rw [if_pos (by omega)]) | (rw [if_neg (by omega)]) | (rw [if_neg (by simp; omega)]) | (split <;> first | (exfalso; omega) | rfl))
      refine takeP 2 (v := ?qav2) (fun _ => trivial) (by rfl) (by kernel_rfl) (.inl ⟨by kernel_rfl, fun w1 _ => ?qay2⟩) ?_
      case qay2 => (go_simp; try first | rfl | (rw [if_pos (by omega)]) | (rw [if_neg (by omega)]) | (rw [if_neg (by simp; omega)]) | (split <;> first | (exfalso; omega) | rfl))
      refine takeP 4 (v := ?qav4) (fun _ => trivial) (by rfl) (by kernel_rfl) (.inl ⟨by kernel_rfl, fun w1 _ => ?qay4⟩) ?_
      case qay4 => (go_simp; try first | rfl | (rw [if_pos (by omega)]) | (rw [if_neg (by omega)]) | (rw [if_neg (by simp; omega)]) | (split <;> first | (exfalso; omega) | rfl))
      refine takeP 5 (v := ?qav5) (fun _ => trivial) (by rfl) (by kernel_rfl) (.inl ⟨by kernel_rfl, fun w1 _ => ?qay5⟩) ?_
      case qay5 => (go_simp; try first | rfl | (rw [if_pos (by omega)]) | (rw [if_neg (by omega)]) | (rw [if_neg (by simp; omega)]) | (split <;> first | (exfalso; omega) | rfl))
      refine takeP 6 (v := ?qav6) (fun _ => trivial) (by rfl) (by kernel_rfl) (.inl ⟨by kernel_rfl, fun w1 _ => ?qay6⟩) ?_
      case qay6 => (go_simp; try first | rfl | (rw [if_pos (by omega)]) | (rw [if_neg (by omega)]) | (rw [if_neg (by simp; omega)]) | (split <;> first | (exfalso; omega) | rfl))
      simp only [Act.put, List.setIfInBounds_toArray, List.set_cons_succ, List.set_cons_zero]
      refine takeH 3 (v := ?qav3) (fun _ => trivial) (by rfl) (by kernel_rfl) hS (.inl ⟨by kernel_rfl, fun w1 ⟨x0, x1, x2, x3, x4, x5, x6, x7, _⟩ => ?qay3⟩) ?_
      case qay3 => (go_simp; try first | rfl | (rw [if_pos (by omega)]) | (rw [if_neg (by omega)]) | (rw [if_neg (by simp; omega)]) | (split <;> first | (exfalso; omega) | rfl))
      refine takeH 7 (v := ?qav7) (fun _ => trivial) (by rfl) (by kernel_rfl) hS (.inl ⟨by kernel_rfl, fun w1 ⟨x0, x1, x2, x3, x4, x5, x6, x7, _⟩ => ?qay7⟩) ?_
      case qay7 => (go_simp; try first | rfl | (rw [if_pos (by omega)]) | (rw [if_neg (by omega)]) | (rw [if_neg (by simp; omega)]) | (split <;> first | (exfalso; omega) | rfl))
      simp only [Act.put, List.setIfInBounds_toArray, List.set_cons_succ, List.set_cons_zero]
      refine oneH 8 (by rfl) (by kernel_rfl) (fun K hK => ?_)
      gi_wp2_with (gi_at_call 30; refine (callsIn_wide.2 (HIS.out wa HBA.out)).mono ?_; rintro e9 wb ⟨rfl, b9⟩)
      have HBB := Lib.hid (below5 HBA.out b9)
      replace hS := HCS.out wb HBB.out
      refine hK _ _ (fun _ => hS) ?_
      clear hK K b9
      refine takeH 9 (v := ?qbv9) (fun _ => trivial) (by rfl) (by kernel_rfl) hS (.inl ⟨by kernel_rfl, fun w1 ⟨x0, x1, x2, x3, x4, x5, x6, x7, _⟩ => ?qby9⟩) ?_
      case qby9 => (go_simp; try first | rfl | (rw [if_pos (by omega)]) | (rw [if_neg (by omega)]) | (rw [if_neg (by simp; omega)]) | (split <;> first | (exfalso; omega) | rfl))
      simp only [Act.put, List.setIfInBounds_toArray, List.set_cons_succ, List.set_cons_zero]
      refine doneH (by kernel_rfl) ?_
      clear hS
      obtain ⟨x0, x1, x2, x3, x4, x5, x6, x7, _⟩ := HCS.out wb HBB.out
      gi_wp2_with fail
      refine (callsIn_wide.2 (HTA.out wb HBB.out)).mono ?_
      rintro e9 wc ⟨va, rfl, ra, b9⟩
      obtain ⟨oa, ca, rfl, ha1, ha2⟩ := ra.form
      have HBC := Lib.hid (below5 HBB.out b9)
      have HRA := Lib.hid ra
      clear x0 x1 x2 x3 x4 x5 x6 x7 b9 ra ha1 ha2
      obtain ⟨x0, x1, x2, x3, x4, x5, x6, x7, _⟩ := HCS.out wc HBC.out
      gi_wp2_with fail
      refine (callsIn_wide.2 (HTB.out wc HBC.out)).mono ?_
      rintro e9 wd ⟨vb, rfl, rb, b9⟩
      obtain ⟨ob, cb, rfl, hb1, hb2⟩ := rb.form
      have HBD := Lib.hid (below5 HBC.out b9)
      have HBCD := Lib.hid b9
      have HRB := Lib.hid rb
      have nlz : (ns.length : Int) ≤ 60 := by omega
      clear x0 x1 x2 x3 x4 x5 x6 x7 b9 rb hb1 hb2 HIS HTA HTB HCS
      gi_wp2_with fail
      gi_loopw [13] (fun v13 W => ∃ k : Nat, k ≤ ns.length ∧ v13 = .int .i64 k ∧ Below wd.heap.size wd W) (fun v13 _ => ns.length - (intOf v13).toNat)
      case atStart => exact ⟨0, Nat.zero_le _, rfl, Below.refl _ _⟩
      case round =>
        obtain ⟨k, hk, rfl, hb⟩ := hrel
        by_cases hkt : k < ns.length
        · have hkz : (k : Int) < (ns.length : Int) := by omega
          obtain ⟨us, u1, u2, u3⟩ := HRA.out
          obtain ⟨vs, s1, s2, s3⟩ := HRB.out
          obtain ⟨a7, rfl, t7⟩ := u2.cells _ (below5 HBCD.out hb) k (by omega)
          obtain ⟨b7, rfl, t8⟩ := s2.cells _ hb k (by omega)
          have q1 := (u3 k (by omega) hkt).below (below5 HBCD.out hb)
          have q2 := (s3 k (by omega) hkt).below hb
          obtain ⟨oy, cy, ey, _, _⟩ := q1.form
          obtain ⟨oz, cz, ez, _, _⟩ := q2.form
          rw [ey] at t7 q1
          rw [ez] at t8 q2
          obtain ⟨e8, he8⟩ : ∃ q, a7.add k = q := ⟨_, rfl⟩
          obtain ⟨f8, hf8⟩ : ∃ q, b7.add k = q := ⟨_, rfl⟩
          rw [he8] at t7
          rw [hf8] at t8
          obtain ⟨nm, hnm⟩ : ∃ nm, ns[k] = nm := ⟨_, rfl⟩
          have hnk : nm.length ≤ 1000 := HNB.out nm (by rw [← hnm]; exact List.getElem_mem hkt)
          rw [hnm] at t7 t8 q1 q2
          have HQ1 := Lib.hid q1
          have HQ2 := Lib.hid q2
          have HBW := Lib.hid hb
          clear u1 u2 u3 s1 s2 s3 q1 q2 ey ez hnm hb
          gi_wp2_with fail
          refine drawnH [3, 7, 9] (Cs [(e8, .slice oy nm.length cy), (f8, .slice oz nm.length cz)]) 10 rfl (by kernel_rfl) ?_
          intro we hwe
          have hS : Cs [(e8, .slice oy nm.length cy), (f8, .slice oz nm.length cz)] we := by subst hwe; exact ⟨t7, t8, trivial⟩
          have hbe : Below wr.heap.size wr we := by subst hwe; exact (Below.refl _ _).drew
          have HBE := Lib.hid (below5 HBW.out hbe)
          have HLE := Lib.hid (isLen_any _ _ nm nm we (HQ1.out.below hbe) (HQ2.out.below hbe) hnk hnk)
          rw [beq_self_eq_true] at HLE
          clear hwe hbe t7 t8
          refine takeP 0 (v := ?qcv0) (fun _ => trivial) (by rfl) (by kernel_rfl) (.inl ⟨by kernel_rfl, fun w1 _ => ?qcy0⟩) ?_
          case qcy0 => (go_simp; try first | rfl | (rw [if_pos (by omega)]) | (rw [if_neg (by omega)]) | (rw [if_neg (by simp; omega)]) | (split <;> first | (exfalso; omega) | rfl))
          refine takeP 1 (v := ?qcv1) (fun _ => trivial) (by rfl) (by kernel_rfl) (.inl ⟨by kernel_rfl, fun w1 _ => ?qcy1⟩) ?_
          case qcy1 => (go_simp; try first | rfl | (rw [if_pos (by omega)]) | (rw [if_neg (by omega)]) | (rw [if_neg (by simp; omega)]) | (split <;> first | (exfalso; omega) | rfl))
          refine takeP 2 (v := ?qcv2) (fun _ => trivial) (by rfl) (by kernel_rfl) (.inl ⟨by kernel_rfl, fun w1 _ => ?qcy2⟩) ?_
          case qcy2 => (go_simp; try first | rfl | (rw [if_pos (by omega)]) | (rw [if_neg (by omega)]) | (rw [if_neg (by simp; omega)]) | (split <;> first | (exfalso; omega) | rfl))
          refine takeP 4 (v := ?qcv4) (fun _ => trivial) (by rfl) (by kernel_rfl) (.inl ⟨by kernel_rfl, fun w1 _ => ?qcy4⟩) ?_
          case qcy4 => (go_simp; try first | rfl | (rw [if_pos (by omega)]) | (rw [if_neg (by omega)]) | (rw [if_neg (by simp; omega)]) | (split <;> first | (exfalso; omega) | rfl))
          refine takeP 5 (v := ?qcv5) (fun _ => trivial) (by rfl) (by kernel_rfl) (.inl ⟨by kernel_rfl, fun w1 _ => ?qcy5⟩) ?_
          case qcy5 => (go_simp; try first | rfl | (rw [if_pos (by omega)]) | (rw [if_neg (by omega)]) | (rw [if_neg (by simp; omega)]) | (split <;> first | (exfalso; omega) | rfl))
          refine takeP 6 (v := ?qcv6) (fun _ => trivial) (by rfl) (by kernel_rfl) (.inl ⟨by kernel_rfl, fun w1 _ => ?qcy6⟩) ?_
          case qcy6 => (go_simp; try first | rfl | (rw [if_pos (by omega)]) | (rw [if_neg (by omega)]) | (rw [if_neg (by simp; omega)]) | (split <;> first | (exfalso; omega) | rfl))
          simp only [Act.put, List.setIfInBounds_toArray, List.set_cons_succ, List.set_cons_zero]
          refine takeH 3 (v := ?qcv3) (fun _ => trivial) (by rfl) (by kernel_rfl) hS (.inl ⟨by kernel_rfl, fun w1 ⟨t7, t8, _⟩ => ?qcy3⟩) ?_
          case qcy3 => (go_simp; try first | rfl | (rw [if_pos (by omega)]) | (rw [if_neg (by omega)]) | (rw [if_neg (by simp; omega)]) | (split <;> first | (exfalso; omega) | rfl))
          refine takeH 7 (v := ?qcv7) (fun _ => trivial) (by rfl) (by kernel_rfl) hS (.inl ⟨by kernel_rfl, fun w1 ⟨t7, t8, _⟩ => ?qcy7⟩) ?_
          case qcy7 => (go_simp; try first | rfl | (rw [if_pos (by omega)]) | (rw [if_neg (by omega)]) | (rw [if_neg (by simp; omega)]) | (split <;> first | (exfalso; omega) | rfl))
          simp only [Act.put, List.setIfInBounds_toArray, List.set_cons_succ, List.set_cons_zero]
          refine oneH 8 (by rfl) (by kernel_rfl) (fun K hK => ?_)
          gi_wp2_with (gi_at_call 33; refine (callsIn_wide.2 HLE.out).mono ?_; rintro e9 wf ⟨rfl, b9⟩)
          have HBF := Lib.hid (below5 HBE.out b9)
          replace hS := Cs.below hS b9
          refine hK _ _ (fun _ => hS) ?_
          clear hK K b9 HLE
          refine takeH 9 (v := ?qdv9) (fun _ => trivial) (by rfl) (by kernel_rfl) hS (.inl ⟨by kernel_rfl, fun w1 ⟨t7, t8, _⟩ => ?qdy9⟩) ?_
          case qdy9 => (go_simp; try first | rfl | (rw [if_pos (by omega)]) | (rw [if_neg (by omega)]) | (rw [if_neg (by simp; omega)]) | (split <;> first | (exfalso; omega) | rfl))
          simp only [Act.put, List.setIfInBounds_toArray, List.set_cons_succ, List.set_cons_zero]
          refine doneH (by kernel_rfl) ?_
          clear hS
          gi_wp2_with fail
          exact ⟨⟨k + 1, hkt, by go_num, HBF.out⟩, by simp [intOf] <;> omega⟩
        · have hkz : ¬ ((k : Int) < (ns.length : Int)) := by omega
          have HBG := Lib.hid (below5 HBD.out hb)
          clear hb
          gi_wp2_with fail
          exact ⟨⟨i + 1, hlt, by go_num, HBG.out⟩, by simp [intOf] <;> omega⟩
    · have hiz : ¬ ((i : Int) < (gs.length : Int)) := by omega
      obtain rfl : i = gs.length := by omega
      have HB := Lib.hid hb
      have HOF := Lib.hid (rsetOf_any (w0 := wr) _ _ lu n t (below5 HB7.out hb) (HRU.out.kept (below5 HB7.out hb)) (by omega) (HN.out.below (below5 HB5.out (below5 HB7.out hb))) NO.out)
      clear hb
      gi_wp2_with fail
      refine (callsIn_wide.2 HOF.out).mono ?_
      rintro e9 wa ⟨cc, vv, hcc, hccl, rfl, hov, b9⟩
      rw [HPU.out] at hcc
      obtain ⟨ok1, hok1⟩ : ∃ b, (!cc.isEmpty) = b := ⟨_, rfl⟩
      rw [hok1]
      have HBA := Lib.hid (below5 HB.out b9)
      have HOV := Lib.hid hov
      have HCC := Lib.hid hcc
      have HOK1 := Lib.hid hok1
      have hcl60 : cc.length ≤ 60 := by omega
      obtain ⟨so, sn, sq, ow, sx, st, sd, sc, rfl, k1, k2, k3, k4, k5⟩ := two_of HC.out HCC.out hov HDF0.out
      rw [hok1] at k5
      obtain ⟨m, hm⟩ : ∃ m, cc.length = m := ⟨_, rfl⟩
      rw [hm] at k3 k5 ⊢
      have K1 := Lib.hid k1
      have K2 := Lib.hid k2
      have K3 := Lib.hid k3
      have K4 := Lib.hid k4
      have K5 := Lib.hid k5
      clear k1 k2 k3 k4 k5 hov hcc hok1 b9 HOF HOV
      gi_wp2_with fail
      obtain ⟨wb, hwb⟩ : ∃ W, wa.alloc (.cells #[.slice so sn sq, .int .i64 sx, .int .u32 (st : Int), .slice sd m sc] 54) = W := ⟨_, rfl⟩
      obtain ⟨bx, hbx⟩ : ∃ b, wa.heap.size = b := ⟨_, rfl⟩
      have HKX : Hid (Blk bx #[.slice so sn sq, .int .i64 sx, .int .u32 (st : Int), .slice sd m sc] 54 wb) := by show Blk _ _ _ _; rw [← hwb, ← hbx]; exact Blk.new wa _ _
      have HBB : Hid (Below w7.heap.size w7 wb) := by show Below _ _ _; rw [← hwb]; exact HBA.out.alloc HBA.out.size _
      have HAB : Hid (Below wa.heap.size wa wb) := by show Below _ _ _; rw [← hwb]; exact (Below.refl _ _).alloc (Nat.le_refl _) _
      rw [hwb, hbx]
      clear hwb hbx
      have HRO := Lib.hid (refOf_any (w0 := wb) _ _ l5 n t (below5 HB7.out HBB.out) (HR5.out.kept (below5 HB7.out HBB.out)) (by omega) (HN.out.below (below5 HB5.out (below5 HB7.out HBB.out))) NO.out)
      refine (callsIn_wide.2 HRO.out).mono ?_
      rintro e9 wc ⟨c2, vr, ok2, hc2, _, rfl, hrv, b9⟩
      rw [HP5.out] at hc2
      obtain ⟨hok2, sp, sm, sr, se, sf, k', rfl, j1, j2, j3⟩ := K5.out c2 vr ok2 wc hc2 hrv
      rw [hok2]
      have HBC := Lib.hid (below5 HBB.out b9)
      have HBBC := Lib.hid b9
      have J1 := Lib.hid j1
      have J2 := Lib.hid j2
      have J3 := Lib.hid j3
      clear j1 j2 j3 hc2 hrv b9 HRO hok2
      gi_wp2_with fail
      obtain ⟨wd, hwd⟩ : ∃ W, wc.alloc (.cells #[.slice sp sm sr, .int .i64 sx, .int .u32 (st : Int), .slice se m sf] 57) = W := ⟨_, rfl⟩
      obtain ⟨by', hby⟩ : ∃ b, wc.heap.size = b := ⟨_, rfl⟩
      have HKY : Hid (Blk by' #[.slice sp sm sr, .int .i64 sx, .int .u32 (st : Int), .slice se m sf] 57 wd) := by show Blk _ _ _ _; rw [← hwd, ← hby]; exact Blk.new wc _ _
      have HBD : Hid (Below w7.heap.size w7 wd) := by show Below _ _ _; rw [← hwd]; exact HBC.out.alloc HBC.out.size _
      have HCD : Hid (Below wc.heap.size wc wd) := by show Below _ _ _; rw [← hwd]; exact (Below.refl _ _).alloc (Nat.le_refl _) _
      rw [hwd, hby]
      clear hwd hby
      have HTY := Lib.hid (types_any (w0 := wd) _ _ lu n (below5 HB7.out HBD.out) (HRU.out.kept (below5 HB7.out HBD.out)) (by omega) (HN.out.below (below5 HB5.out (below5 HB7.out HBD.out))) NO.out)
      rw [HPU.out] at HTY
      refine (callsIn_wide.2 HTY.out).mono ?_
      rintro e9 we ⟨vt, rfl, rt, b9⟩
      have HBE := Lib.hid (below5 HBD.out b9)
      have HDE := Lib.hid b9
      have HTK := Lib.hid (refTypes_any (w0 := we) _ _ l5 n (below5 HB7.out HBE.out) (HR5.out.kept (below5 HB7.out HBE.out)) (by omega) (HN.out.below (below5 HB5.out (below5 HB7.out HBE.out))) NO.out)
      obtain ⟨ts, hts⟩ : ∃ ts, Rs.types (l0.map (·.2)) n = ts := ⟨_, rfl⟩
      have htl : ts.length ≤ 60 := by rw [← hts]; exact Nat.le_trans (Rs.types_len _ _) hll0
      rw [hts] at rt
      obtain ⟨ot, ct, rfl, _, _⟩ := rt.form
      rw [List.length_map] at rt ⊢
      have HTS := Lib.hid hts
      have HRT := Lib.hid rt
      have tlz : (ts.length : Int) ≤ 60 := by omega
      clear b9 rt hts HTY
      gi_wp2_with fail
      refine (callsIn_wide.2 HTK.out).mono ?_
      rintro e9 wf ⟨c3, vu, hc3, _, rfl, ru, b9⟩
      rw [tysK_types (hc3.trans (by rw [HP5.out])) n, HTS.out] at ru
      obtain ⟨ou, cu, rfl, _, _⟩ := ru.form
      rw [List.length_map] at ru ⊢
      have HRV := Lib.hid ru
      have HBF := Lib.hid (below5 HBE.out b9)
      have HEF := Lib.hid b9
      have HCF := Lib.hid (below5 (below5 HCD.out HDE.out) b9)
      have HXF := Lib.hid (HKX.out.below (below5 HBBC.out HCF.out))
      have HYF := Lib.hid (HKY.out.below (below5 HDE.out b9))
      have HIS := Lib.hid (is6_any so sn sq ow sx st sd m sc cc sp sm sr se sf k' (below5 HB7.out HBF.out) K1.out J1.out K2.out (K3.out.below (below5 HAB.out (below5 HBBC.out HCF.out))) (J2.out.below HCF.out) J3.out (by omega) K4.out)
      have x0 : wf.cell? ⟨bx, 0, none⟩ = some (.slice so sn sq) := HXF.out.cell 0
      have x1 : wf.cell? ⟨bx, 1, none⟩ = some (.int .i64 sx) := HXF.out.cell 1
      have x2 : wf.cell? ⟨bx, 2, none⟩ = some (.int .u32 (st : Int)) := HXF.out.cell 2
      have x3 : wf.cell? ⟨bx, 3, none⟩ = some (.slice sd m sc) := HXF.out.cell 3
      have y0 : wf.cell? ⟨by', 0, none⟩ = some (.slice sp sm sr) := HYF.out.cell 0
      have y1 : wf.cell? ⟨by', 1, none⟩ = some (.int .i64 sx) := HYF.out.cell 1
      have y2 : wf.cell? ⟨by', 2, none⟩ = some (.int .u32 (st : Int)) := HYF.out.cell 2
      have y3 : wf.cell? ⟨by', 3, none⟩ = some (.slice se m sf) := HYF.out.cell 3
      have n1 : (ok1 != ok1) = false := by simp
      have n2 : (ok1 == ok1) = true := by simp
      clear b9 ru hc3 HTK
      gi_wp2_with fail
      refine (callsIn_wide.2 HIS.out).mono ?_
      rintro e9 wg ⟨rfl, b9⟩
      have HBG := Lib.hid (below5 HBF.out b9)
      have HFG := Lib.hid b9
      clear b9 HIS x0 x1 x2 x3 y0 y1 y2 y3
      gi_wp2_with fail
      gi_loopw [20] (fun v20 W => ∃ k : Nat, k ≤ ts.length ∧ v20 = .int .i64 k ∧ Below wg.heap.size wg W) (fun v20 _ => ts.length - (intOf v20).toNat)
      case atStart => exact ⟨0, Nat.zero_le _, rfl, Below.refl _ _⟩
      case round =>
        obtain ⟨k, hk, rfl, hb⟩ := hrel
        by_cases hkt : k < ts.length
        · have hkz : (k : Int) < (ts.length : Int) := by omega
          obtain ⟨a7, rfl, t7⟩ := HRT.out.cells _ (below5 HEF.out (below5 HFG.out hb)) k (by rw [List.length_map]; exact hkt)
          obtain ⟨b7, rfl, t8⟩ := HRV.out.cells _ (below5 HFG.out hb) k (by rw [List.length_map]; exact hkt)
          rw [List.getElem_map] at t7 t8
          obtain ⟨tk, htk⟩ : ∃ tk, ts[k] = tk := ⟨_, rfl⟩
          rw [htk] at t7 t8
          obtain ⟨e8, he8⟩ : ∃ q, a7.add k = q := ⟨_, rfl⟩
          obtain ⟨f8, hf8⟩ : ∃ q, b7.add k = q := ⟨_, rfl⟩
          rw [he8] at t7
          rw [hf8] at t8
          have HBW := Lib.hid hb
          clear htk hb
          gi_wp2_with fail
          refine drawnH [3, 7] (Cs [(e8, .int .i64 tk), (f8, .int .i64 tk)]) 9 rfl (by kernel_rfl) ?_
          intro wh hwh
          have hS : Cs [(e8, .int .i64 tk), (f8, .int .i64 tk)] wh := by subst hwh; exact ⟨t7, t8, trivial⟩
          have HBH : Hid (Below wg.heap.size wg wh) := by subst hwh; exact HBW.out.drew
          clear hwh t7 t8
          refine takeP 0 (v := ?qxv0) (fun _ => trivial) (by rfl) (by kernel_rfl) (.inl ⟨by kernel_rfl, fun w1 _ => ?qxy0⟩) ?_
          case qxy0 => (go_simp; try first | rfl | (rw [if_pos (by omega)]) | (rw [if_neg (by omega)]) | (rw [if_neg (by simp; omega)]) | (split <;> first | (exfalso; omega) | rfl))
          refine takeP 1 (v := ?qxv1) (fun _ => trivial) (by rfl) (by kernel_rfl) (.inl ⟨by kernel_rfl, fun w1 _ => ?qxy1⟩) ?_
          case qxy1 => (go_simp; try first | rfl | (rw [if_pos (by omega)]) | (rw [if_neg (by omega)]) | (rw [if_neg (by simp; omega)]) | (split <;> first | (exfalso; omega) | rfl))
          refine takeP 2 (v := ?qxv2) (fun _ => trivial) (by rfl) (by kernel_rfl) (.inl ⟨by kernel_rfl, fun w1 _ => ?qxy2⟩) ?_
          case qxy2 => (go_simp; try first | rfl | (rw [if_pos (by omega)]) | (rw [if_neg (by omega)]) | (rw [if_neg (by simp; omega)]) | (split <;> first | (exfalso; omega) | rfl))
          refine takeP 4 (v := ?qxv4) (fun _ => trivial) (by rfl) (by kernel_rfl) (.inl ⟨by kernel_rfl, fun w1 _ => ?qxy4⟩) ?_
          case qxy4 => (go_simp; try first | rfl | (rw [if_pos (by omega)]) | (rw [if_neg (by omega)]) | (rw [if_neg (by simp; omega)]) | (split <;> first | (exfalso; omega) | rfl))
          refine takeP 5 (v := ?qxv5) (fun _ => trivial) (by rfl) (by kernel_rfl) (.inl ⟨by kernel_rfl, fun w1 _ => ?qxy5⟩) ?_
          case qxy5 => (go_simp; try first | rfl | (rw [if_pos (by omega)]) | (rw [if_neg (by omega)]) | (rw [if_neg (by simp; omega)]) | (split <;> first | (exfalso; omega) | rfl))
          refine takeP 6 (v := ?qxv6) (fun _ => trivial) (by rfl) (by kernel_rfl) (.inl ⟨by kernel_rfl, fun w1 _ => ?qxy6⟩) ?_
          case qxy6 => (go_simp; try first | rfl | (rw [if_pos (by omega)]) | (rw [if_neg (by omega)]) | (rw [if_neg (by simp; omega)]) | (split <;> first | (exfalso; omega) | rfl))
          simp only [Act.put, List.setIfInBounds_toArray, List.set_cons_succ, List.set_cons_zero]
          refine takeH 3 (v := ?qxv3) (fun _ => trivial) (by rfl) (by kernel_rfl) hS (.inl ⟨by kernel_rfl, fun w1 ⟨t7, t8, _⟩ => ?qxy3⟩) ?_
          case qxy3 => (go_simp; try first | rfl | (rw [if_pos (by omega)]) | (rw [if_neg (by omega)]) | (rw [if_neg (by simp; omega)]) | (split <;> first | (exfalso; omega) | rfl))
          refine takeH 7 (v := ?qxv7) (fun _ => trivial) (by rfl) (by kernel_rfl) hS (.inl ⟨by kernel_rfl, fun w1 ⟨t7, t8, _⟩ => ?qxy7⟩) ?_
          case qxy7 => (go_simp; try first | rfl | (rw [if_pos (by omega)]) | (rw [if_neg (by omega)]) | (rw [if_neg (by simp; omega)]) | (split <;> first | (exfalso; omega) | rfl))
          simp only [Act.put, List.setIfInBounds_toArray, List.set_cons_succ, List.set_cons_zero]
          refine takeP 8 (v := ?qxv8) (fun _ => trivial) (by rfl) (by kernel_rfl) (.inl ⟨by kernel_rfl, fun w1 _ => ?qxy8⟩) ?_
          case qxy8 => (go_simp; try first | rfl | (rw [if_pos (by omega)]) | (rw [if_neg (by omega)]) | (rw [if_neg (by simp; omega)]) | (split <;> first | (exfalso; omega) | rfl))
          simp only [Act.put, List.setIfInBounds_toArray, List.set_cons_succ, List.set_cons_zero]
          refine doneH (by kernel_rfl) ?_
          clear hS
          gi_wp2_with fail
          exact ⟨⟨k + 1, hkt, by go_num, HBH.out⟩, by simp [intOf] <;> omega⟩
        · have hkz : ¬ ((k : Int) < (ts.length : Int)) := by omega
          have HBH := Lib.hid (below5 HBG.out hb)
          clear hb
          gi_wp2_with fail
          go_ret
          exact ⟨rfl, below5 HB5.out (below5 HB7.out HBH.out)⟩
end Go.Proofs.Ytneghhbclefmoaa
end
