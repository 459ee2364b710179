/- The document's Of: the set of an owner and a type. -/
import Derived.Test.YtneghhbclefmoaaGreatLSgD
import Derived.Test.YtneghhbclefmoaaGreatLSfA
section
namespace Go.Proofs.YtneghhbclefmoaaGreat
open Go.RowKit Go.Shelf Go.Sort
set_option maxRecDepth 100000

def hasKey {w : World} (o : List (List UInt8)) (t : Int) : List (El w) → Bool
  | [] => false
  | x :: _ => (x.1.2.type == t) && Nm.same x.1.2.owner o
theorem find_at {α : Type} {p : α → Bool} : ∀ {ks : List α} {i : Nat} (hi : i < ks.length), (∀ j (h : j < ks.length), j < i → p ks[j] = false) → p ks[i] = true → ks.find? p = some ks[i]
  | x :: ks, 0, _, _, hp => by
    have h0 : p x = true := hp
    rw [List.find?_cons, h0]; rfl
  | x :: ks, i + 1, hi, h, hp => by
    have h0 : p x = false := h 0 (by simp) (by omega)
    rw [List.find?_cons, h0]
    exact find_at (by simpa using hi) (fun j hj hji => h (j + 1) (by simpa using hj) (by omega)) (by simpa using hp)
theorem find_none {α : Type} {p : α → Bool} {ks : List α} (h : ∀ j (h : j < ks.length), p ks[j] = false) : ks.find? p = none := by
  rw [List.find?_eq_none]
  intro x hx
  obtain ⟨j, hj, rfl⟩ := List.getElem_of_mem hx
  rw [h j hj]; decide
theorem DatsRd.setC {w : World} {o : Option Addr} {n cap : Nat} {l : List (El w)} {W : World} (h : DatsRd (.slice o n cap) l W) {b : Nat} (hb : ∀ a, o = some a → a.block ≠ b) (i : Nat) (u : Value) : DatsRd (.slice o n cap) l (W.setCell ⟨b, i, none⟩ u) := by
  obtain ⟨o', cap', e0, h1, h2, h3, h4⟩ := h
  refine ⟨o', cap', e0, h1, h2, h3, fun j hj => ?_⟩
  obtain ⟨a, ha, hc⟩ := h4 j hj
  refine ⟨a, ha, ?_⟩
  rw [← hc]
  exact World.cell?_of_block (Below.heap_setCell _ _ _ _ (by rw [add_block]; exact hb a (by cases e0; exact ha)))
/-- what the document's Of hands back -/
def ROfV {w : World} (ks : List (List (El w))) (o : List (List UInt8)) (t : Int) (v : Value) (ok : Bool) (W : World) : Prop :=
  match ks.find? (hasKey o t) with
  | none => v = .agg #[.slice none 0 0, .int .i64 0, .int .u32 0, .slice none 0 0] ∧ ok = false
  | some k => ∃ cs, v = .agg cs.toArray ∧ SetC cs k W ∧ ok = true
def ROfR {w : World} (l : List (El w)) (o : List (List UInt8)) (t : Int) (w0 : World) (e : Ending) (w' : World) : Prop :=
  ∃ (c : List (El w)) (v : Value) (ok : Bool), plE c = Rc.canon (plE l) ∧ c.length ≤ l.length ∧ e = .returned (.tuple #[v, .bool ok]) ∧ ROfV (grp c) o t v ok w' ∧ Below w0.heap.size w0 w'
theorem mem_flat_len {α : Type} {k : List α} : ∀ {L : List (List α)}, k ∈ L → k.length ≤ L.flatten.length
  | x :: L, h => by
    rw [List.flatten_cons, List.length_append]
    rcases List.mem_cons.1 h with rfl | h
    · omega
    · have := mem_flat_len h; omega
theorem grp_mem_bound {w : World} {c : List (El w)} {k : List (El w)} (h : k ∈ grp c) : k.length ≤ c.length := by
  have h2 := mem_flat_len h
  rw [grp_flat c] at h2; exact h2
theorem grp_len {w : World} (c : List (El w)) : (grp c).length ≤ c.length := by
  have : ∀ (n : Nat) (c : List (El w)), c.length ≤ n → (grp c).length ≤ c.length := by
    intro n
    induction n with
    | zero => intro c h; have : c = [] := List.length_eq_zero_iff.1 (by omega); subst this; exact Nat.le_refl _
    | succ n ih =>
      intro c h
      cases c with
      | nil => exact Nat.le_refl _
      | cons x l =>
        have hp := run_posE x l
        rw [grp_cons, List.length_cons]
        have := ih ((x :: l).drop (Rs.run x.1.2 (plE (x :: l)))) (by rw [List.length_drop]; simp only [List.length_cons] at h ⊢; omega)
        rw [List.length_drop] at this
        simp only [List.length_cons] at this ⊢
        omega
  exact this _ c (Nat.le_refl _)
set_option maxHeartbeats 4000000 in
theorem refOf_any {w w0 : World} (v vo : Value) (l : List (El w)) (o : List (List UInt8)) (t : Int) (hb0 : Below w.heap.size w w0) (hv : RecsRd v (l.map (·.1)) w0) (na : l.length ≤ 1000) (ho : Rd vo o w0) (no : NB o) :
    Calls Tryz.prog 112 #[v, vo, .int .i64 t] w0 (ROfR l o t w0) := by
  obtain ⟨oo, co, rfl, _, _⟩ := ho.form
  obtain ⟨W2, hW2⟩ : ∃ W2, w0.alloc (.cells #[.slice none 0 0, .int .i64 0, .int .u32 0, .slice none 0 0] 173) = W2 := ⟨_, rfl⟩
  have hb2 : Below w0.heap.size w0 W2 := by subst hW2; exact (Below.refl _ _).alloc (Nat.le_refl _) _
  have hblk : Blk w0.heap.size #[.slice none 0 0, .int .i64 0, .int .u32 0, .slice none 0 0] 173 W2 := by subst hW2; exact Blk.new w0 _ _
  have HC := Lib.hid (refSets_any v l (below5 hb0 hb2) (hv.kept hb2) na)
  have HB0 := Lib.hid hb0
  have HB2 := Lib.hid hb2
  have HBL := Lib.hid hblk
  have HO := Lib.hid ho
  have NO := Lib.hid no
  clear hb0 hv hb2 hblk ho no
  refine (callsIn_wide (n := 0)).1 ?_
  refine callsIn_of_wp Tryz.func112 rfl trivial ?_ rfl
  simp only [Tryz.ntmps112, List.size_toArray, List.length_cons, List.length_nil, Nat.reduceAdd, Nat.reduceSub, Array.replicate_succ, Array.replicate_zero, List.push_toArray, List.append_toArray, List.nil_append, List.cons_append]
  gi_wp2_with fail
  refine (callsIn_wide.2 HC.out).mono ?_
  rintro e9 w1 ⟨c, v', hc1, hc2, rfl, hc4, hc5⟩
  obtain ⟨os, cs, rfl, hs1, hs2⟩ := hc4.form
  have HP := Lib.hid hc1
  have HL := Lib.hid hc2
  have HS := Lib.hid (fun i hi => hc4.at i hi)
  have HB1 : Hid (Below w0.heap.size w0 w1) := below5 HB2.out hc5
  have HBL1 := Lib.hid (HBL.out.below hc5)
  have HWW : Hid (Below w.heap.size w w1) := below5 HB0.out (below5 HB2.out hc5)
  have hgl : ((grp c).length : Int) ≤ 1000 := by have := grp_len c; omega
  clear hc1 hc2 hc4 hc5 hW2
  gi_wp2_with fail
  gi_loopw [9] (fun vi W => ∃ i : Nat, i ≤ (grp c).length ∧ vi = .int .i64 i ∧ Hid (∀ j (h : j < (grp c).length), j < i → hasKey o t (grp c)[j] = false) ∧ Below w1.heap.size w1 W) (fun vi _ => (grp c).length - (intOf vi).toNat)
  case atStart => exact ⟨0, Nat.zero_le _, rfl, (fun j h h0 => absurd h0 (by omega)), Below.refl _ _⟩
  case round =>
    obtain ⟨i, hi, rfl, HN, hb⟩ := hrel
    have HB := Lib.hid hb
    have hbk := HBL1.out.below hb
    have HBK := Lib.hid hbk
    have a0 : wr.cell? ⟨w0.heap.size, 0, none⟩ = some _ := hbk.cell 0
    have a1 : wr.cell? ⟨w0.heap.size, 1, none⟩ = some _ := hbk.cell 1
    have a2 : wr.cell? ⟨w0.heap.size, 2, none⟩ = some _ := hbk.cell 2
    have a3 : wr.cell? ⟨w0.heap.size, 3, none⟩ = some _ := hbk.cell 3
    have z0 := hbk.frozen 0
    have z1 := hbk.frozen 1
    have z2 := hbk.frozen 2
    have z3 := hbk.frozen 3
    clear hb hbk
    by_cases hlt : i < (grp c).length
    case neg =>
      have hlz : ¬ ((i : Int) < ((grp c).length : Int)) := by omega
      gi_wp2_with fail
      obtain ⟨W5, hW5⟩ : ∃ W, (((wr.setCell ⟨w0.heap.size, 0, none⟩ (.slice none 0 0)).setCell ⟨w0.heap.size, 1, none⟩ (.int .i64 0)).setCell ⟨w0.heap.size, 2, none⟩ (.int .u32 0)).setCell ⟨w0.heap.size, 3, none⟩ (.slice none 0 0) = W := ⟨_, rfl⟩
      have hbl5 : Blk w0.heap.size #[.slice none 0 0, .int .i64 0, .int .u32 0, .slice none 0 0] 173 W5 := by subst hW5; exact (((HBK.out.setAt 0 _).setAt 1 _).setAt 2 _).setAt 3 _
      have hb5 : Below w0.heap.size w0 W5 := by
        subst hW5
        exact ((((below5 HB1.out HB.out).setCell (p := ⟨w0.heap.size, 0, none⟩) (Nat.le_refl _) _).setCell (p := ⟨w0.heap.size, 1, none⟩) (Nat.le_refl _) _).setCell (p := ⟨w0.heap.size, 2, none⟩) (Nat.le_refl _) _).setCell (p := ⟨w0.heap.size, 3, none⟩) (Nat.le_refl _) _
      have HBL5 := Lib.hid hbl5
      have HB5 := Lib.hid hb5
      have b0 : W5.cell? ⟨w0.heap.size, 0, none⟩ = some _ := hbl5.cell 0
      have b1 : W5.cell? ⟨w0.heap.size, 1, none⟩ = some _ := hbl5.cell 1
      have b2 : W5.cell? ⟨w0.heap.size, 2, none⟩ = some _ := hbl5.cell 2
      have b3 : W5.cell? ⟨w0.heap.size, 3, none⟩ = some _ := hbl5.cell 3
      rw [hW5]
      have HW5 := Lib.hid hW5
      clear hbl5 hb5 hW5 a0 a1 a2 a3 z0 z1 z2 z3
      refine bodyPost_ret (v := .tuple #[.agg #[.slice none 0 0, .int .i64 0, .int .u32 0, .slice none 0 0], .bool false]) (by simp at b0 b1 b2 b3; simp [results, Tryz.results112, go_sem, b0, b1, b2, b3]) rfl ?_
      refine ⟨c, _, _, HP.out, HL.out, rfl, ?_, HB5.out⟩
      unfold ROfV
      rw [find_none (fun j hj => HN.out j hj (by omega))]
      exact ⟨rfl, rfl⟩
    case pos =>
    have hlz : (i : Int) < ((grp c).length : Int) := by omega
    obtain ⟨ga, rfl, x, xs, po, no, qo, od, cd, e1, e3, e4, e5⟩ := HS.out i hlt
    obtain ⟨e, he⟩ : ∃ e, ga.add (i * 4) = e := ⟨_, rfl⟩
    obtain ⟨c0, c1, c2, c3⟩ := e5 wr HB.out
    rw [he] at c0 c1 c2 c3
    have HRO := Lib.hid e3
    have HDA := Lib.hid e4
    have HE1 := Lib.hid e1
    have hxk : x.1.2.owner = x.1.2.owner := rfl
    obtain ⟨z, hz⟩ : ∃ z, Nm.same x.1.2.owner o = z := ⟨_, rfl⟩
    have HZ := Lib.hid hz
    obtain ⟨b, hbt⟩ : ∃ b, (x.1.2.type == t) = b := ⟨_, rfl⟩
    have HKEY : Hid (hasKey o t (grp c)[i] = (b && z)) := by show hasKey o t _ = _; rw [e1, ← hz, ← hbt]; rfl
    have HSM : Hid (∀ W', Below w1.heap.size w1 W' → Calls Tryz.prog 63 #[.slice po no qo, .slice oo o.length co] W' (Gives (.bool z) W')) := fun W' hW => by
      have := refSame_any _ _ x.1.2.owner o W' (HRO.out.below (below5 HWW.out hW)) (HO.out.below (below5 HB1.out hW)) x.2.2.owner NO.out
      rw [hz] at this; exact this
    have HRX : Hid (∀ W', Below w1.heap.size w1 W' → W'.cell? e = some (.slice po no qo) ∧ W'.cell? ⟨e.block, e.off + 1, none⟩ = some (.int .i64 x.1.2.type) ∧ W'.cell? ⟨e.block, e.off + 2, none⟩ = some (.int .u32 ((Rs.ttl x.1.2 (plE (grp c)[i]) : Nat) : Int)) ∧ W'.cell? ⟨e.block, e.off + 3, none⟩ = some (.slice od (grp c)[i].length cd)) := fun W' hW => by
      have := e5 W' hW
      rw [he] at this; exact this
    clear e1 e3 e4 e5 hz hxk HS HC
    cases b with
    | false =>
      gi_wp2_with fail
      refine ⟨⟨i + 1, hlt, by go_num, ?_, HB.out⟩, by simp [intOf] <;> omega⟩
      show ∀ j (h : j < (grp c).length), j < i + 1 → _
      intro j hj hjk
      by_cases hji : j < i
      · exact HN.out j hj hji
      · have hji : j = i := by omega
        subst hji
        rw [HKEY.out, Bool.false_and]
    | true =>
      cases z with
      | false =>
        gi_wp2_with (gi_at_call 63; refine (callsIn_wide.2 (HSM.out wr HB.out)).mono ?_; rintro e9 wd ⟨rfl, b9⟩; have HBD := Lib.hid (below5 HB.out b9); have HBKD := Lib.hid (HBK.out.below b9); clear a0 a1 a2 a3 z0 z1 z2 z3 c0 c1 c2 c3 b9; obtain ⟨c0, c1, c2, c3⟩ := HRX.out wd HBD.out; have a0 : wd.cell? ⟨w0.heap.size, 0, none⟩ = some _ := HBKD.out.cell 0; have a1 : wd.cell? ⟨w0.heap.size, 1, none⟩ = some _ := HBKD.out.cell 1; have a2 : wd.cell? ⟨w0.heap.size, 2, none⟩ = some _ := HBKD.out.cell 2; have a3 : wd.cell? ⟨w0.heap.size, 3, none⟩ = some _ := HBKD.out.cell 3; have z0 := HBKD.out.frozen 0; have z1 := HBKD.out.frozen 1; have z2 := HBKD.out.frozen 2; have z3 := HBKD.out.frozen 3)
        refine ⟨⟨i + 1, hlt, by go_num, ?_, HBD.out⟩, by simp [intOf] <;> omega⟩
        show ∀ j (h : j < (grp c).length), j < i + 1 → _
        intro j hj hjk
        by_cases hji : j < i
        · exact HN.out j hj hji
        · have hji : j = i := by omega
          subst hji
          rw [HKEY.out, Bool.and_false]
      | true =>
        gi_wp2_with (gi_at_call 63; refine (callsIn_wide.2 (HSM.out wr HB.out)).mono ?_; rintro e9 wd ⟨rfl, b9⟩; have HBD := Lib.hid (below5 HB.out b9); have HBKD := Lib.hid (HBK.out.below b9); clear a0 a1 a2 a3 z0 z1 z2 z3 c0 c1 c2 c3 b9; obtain ⟨c0, c1, c2, c3⟩ := HRX.out wd HBD.out; have a0 : wd.cell? ⟨w0.heap.size, 0, none⟩ = some _ := HBKD.out.cell 0; have a1 : wd.cell? ⟨w0.heap.size, 1, none⟩ = some _ := HBKD.out.cell 1; have a2 : wd.cell? ⟨w0.heap.size, 2, none⟩ = some _ := HBKD.out.cell 2; have a3 : wd.cell? ⟨w0.heap.size, 3, none⟩ = some _ := HBKD.out.cell 3; have z0 := HBKD.out.frozen 0; have z1 := HBKD.out.frozen 1; have z2 := HBKD.out.frozen 2; have z3 := HBKD.out.frozen 3)
        obtain ⟨W5, hW5⟩ : ∃ W, (((wd.setCell ⟨w0.heap.size, 0, none⟩ (.slice po no qo)).setCell ⟨w0.heap.size, 1, none⟩ (.int .i64 x.1.2.type)).setCell ⟨w0.heap.size, 2, none⟩ (.int .u32 ((Rs.ttl x.1.2 (plE (grp c)[i]) : Nat) : Int))).setCell ⟨w0.heap.size, 3, none⟩ (.slice od (grp c)[i].length cd) = W := ⟨_, rfl⟩
        have hbl5 : Blk w0.heap.size #[.slice po no qo, .int .i64 x.1.2.type, .int .u32 ((Rs.ttl x.1.2 (plE (grp c)[i]) : Nat) : Int), .slice od (grp c)[i].length cd] 173 W5 := by subst hW5; exact (((HBKD.out.setAt 0 _).setAt 1 _).setAt 2 _).setAt 3 _
        have hb5 : Below w0.heap.size w0 W5 := by
          subst hW5
          exact ((((below5 HB1.out HBD.out).setCell (p := ⟨w0.heap.size, 0, none⟩) (Nat.le_refl _) _).setCell (p := ⟨w0.heap.size, 1, none⟩) (Nat.le_refl _) _).setCell (p := ⟨w0.heap.size, 2, none⟩) (Nat.le_refl _) _).setCell (p := ⟨w0.heap.size, 3, none⟩) (Nat.le_refl _) _
        have HBL5 := Lib.hid hbl5
        have HB5 := Lib.hid hb5
        have b0 : W5.cell? ⟨w0.heap.size, 0, none⟩ = some _ := hbl5.cell 0
        have b1 : W5.cell? ⟨w0.heap.size, 1, none⟩ = some _ := hbl5.cell 1
        have b2 : W5.cell? ⟨w0.heap.size, 2, none⟩ = some _ := hbl5.cell 2
        have b3 : W5.cell? ⟨w0.heap.size, 3, none⟩ = some _ := hbl5.cell 3
        rw [hW5]
        have HW5 := Lib.hid hW5
        clear hbl5 hb5 hW5 a0 a1 a2 a3 z0 z1 z2 z3
        refine bodyPost_ret (v := .tuple #[.agg #[.slice po no qo, .int .i64 x.1.2.type, .int .u32 ((Rs.ttl x.1.2 (plE (grp c)[i]) : Nat) : Int), .slice od (grp c)[i].length cd], .bool true]) (by simp at b0 b1 b2 b3; simp [results, Tryz.results112, go_sem, b0, b1, b2, b3]) rfl ?_
        refine ⟨c, _, _, HP.out, HL.out, rfl, ?_, HB5.out⟩
        unfold ROfV
        rw [find_at hlt (fun j hj hji => HN.out j hj hji) (by rw [HKEY.out]; rfl)]
        refine ⟨_, rfl, ⟨x, xs, po, no, qo, od, cd, HE1.out, rfl, HRO.out, ?_⟩, rfl⟩
        have hd := HDA.out.cells_kept (CellsKept.below HBD.out)
        have hoff := hd.off (by have := HE1.out; rw [show (grp c)[i] = x :: xs from this]; simp) HBKD.out
        have h9 := (((hd.setC hoff 0 (.slice po no qo)).setC hoff 1 (.int .i64 x.1.2.type)).setC hoff 2 (.int .u32 ((Rs.ttl x.1.2 (plE (grp c)[i]) : Nat) : Int))).setC hoff 3 (.slice od (grp c)[i].length cd)
        rw [show _ = W5 from HW5.out] at h9
        exact h9
end Go.Proofs.YtneghhbclefmoaaGreat
end
section
namespace Go.Proofs.YtneghhbclefmoaaGreat
open Go.RowKit Go.Shelf Go.Sort
set_option maxRecDepth 100000

def ownK {w : World} (o : List (List UInt8)) : List (El w) → Bool
  | [] => false
  | x :: _ => Nm.same x.1.2.owner o
def typK {w : World} : List (El w) → Int
  | [] => 0
  | x :: _ => x.1.2.type
def tysK {w : World} (o : List (List UInt8)) (ks : List (List (El w))) : List Int := (ks.filter (ownK o)).map typK
def RTyR {w : World} (l : List (El w)) (o : List (List UInt8)) (w0 : World) (e : Ending) (w' : World) : Prop :=
  ∃ (c : List (El w)) (v' : Value), plE c = Rc.canon (plE l) ∧ c.length ≤ l.length ∧ e = .returned v' ∧ Sl v' ((tysK o (grp c)).map I64) w' ∧ Below w0.heap.size w0 w'
end Go.Proofs.YtneghhbclefmoaaGreat
end
section
namespace Go.Proofs.YtneghhbclefmoaaGreat
open Go.RowKit Go.Shelf Go.Sort
set_option maxRecDepth 100000

end Go.Proofs.YtneghhbclefmoaaGreat
end
section
namespace Go.Proofs.YtneghhbclefmoaaGreat
open Go.RowKit Go.Shelf Go.Sort
set_option maxRecDepth 100000

theorem NmsRd.form {v : Value} {ns : List (List (List UInt8))} {W : World} (h : NmsRd v ns W) : ∃ o cap, v = .slice o ns.length cap ∧ ns.length ≤ cap ∧ cap ≤ 9223372036854775807 := by
  obtain ⟨us, h1, h2, h3⟩ := h
  obtain ⟨o, cap, e, h4, h5⟩ := h2.form
  exact ⟨o, cap, by rw [e, h1], by omega, by unfold maxLen at h5; exact h5⟩
set_option maxHeartbeats 1000000 in
theorem isLen_any (v u : Value) (a b : List (List UInt8)) (w : World) (hv : Rd v a w) (hu : Rd u b w) (ha : a.length ≤ 1000) (hb : b.length ≤ 1000) :
    Calls Tryz.prog 15 #[v, u] w (Gives (.bool (a == b)) w) := by
  obtain ⟨o, cap, rfl, h1, h2⟩ := hv.form
  obtain ⟨o', cap', rfl, h1', h2'⟩ := hu.form
  have HC := Lib.hid hv.cells
  have HD := Lib.hid hu.cells
  have na : (a.length : Int) ≤ 1000 := by omega
  have nb : (b.length : Int) ≤ 1000 := by omega
  clear hv hu ha hb
  have e0 : ∀ wr W : World, W.heap = wr.heap → ∀ p, W.cell? p = wr.cell? p := fun wr W h p => by unfold World.cell?; rw [h]
  by_cases hab : a.length = b.length
  · have hab' : ((a.length : Int) != b.length) = false := by simp [hab]
    have HAB := Lib.hid hab
    clear hab
    go_enter Tryz.func15, Tryz.ntmps15
    go_wp2
    go_loopw [5] (fun i wr => ∃ k : Nat, Nm.isTo a b k ∧ i = .int .i64 k ∧ Below w.heap.size w wr) (fun i _ => a.length - (intOf i).toNat)
    case atStart => exact ⟨0, ⟨by omega, fun j _ _ h => by omega⟩, rfl, Below.refl _ _⟩
    case round =>
      obtain ⟨k, hto, rfl, hb⟩ := hrel
      by_cases hlt : k < a.length
      · have hlt' : k < b.length := by have := HAB.out; omega
        obtain ⟨x, rfl, e1⟩ := HC.out _ hb k hlt
        obtain ⟨y, rfl, e2⟩ := HD.out _ hb k hlt'
        by_cases he : a[k] = b[k]
        · have HT := Lib.hid (hto.step hlt hlt' he)
          rw [← he] at e2
          clear hto he
          go_wp2_with fail
          go_quiet (fail)
          go_wp2_with fail
          exact ⟨⟨k + 1, HT.out, by go_num, below_drewN hb _⟩, by simp [intOf]; omega⟩
        · have HF := Lib.hid (Nm.is_not hlt hlt' he)
          have hs : (a[k] == b[k]) = false := by simpa using he
          clear hto he
          go_wp2_with fail
          go_quiet (fail)
          go_wp2_with fail
          go_ret
          exact ⟨by rw [HF.out]; rfl, below_drewN hb _⟩
      · have HF := Lib.hid (hto.done hlt HAB.out)
        go_wp2
        go_ret
        exact ⟨by rw [HF.out]; rfl, hb⟩
  · have hab' : ((a.length : Int) != b.length) = true := by simp; omega
    have HF := Lib.hid (Nm.is_len hab)
    go_enter Tryz.func15, Tryz.ntmps15
    go_wp2
    go_ret
    exact ⟨by rw [HF.out]; rfl, Below.refl _ _⟩
set_option maxHeartbeats 4000000 in
theorem lawIs_any (va vb : List Value) (r : Rc.PRec) (w : World) (ha : DatRd va r w) (hb : DatRd vb r w) (rb : RB r) :
    Calls Tryz.prog 51 #[.agg va.toArray, .agg vb.toArray] w (TrE w) := by
  obtain ⟨vn, vm, vt, vr, rfl, a1, a2, a3, a4⟩ := ha
  obtain ⟨un, um, ut, ur, rfl, b1, b2, b3, b4⟩ := hb
  obtain ⟨p1, q1, rfl, _⟩ := a1.form
  obtain ⟨p2, q2, rfl, _⟩ := a2.form
  obtain ⟨p3, q3, rfl, _⟩ := a3.form
  obtain ⟨p4, q4, rfl, _⟩ := Sl.form a4
  obtain ⟨r1, t1, rfl, _⟩ := b1.form
  obtain ⟨r2, t2, rfl, _⟩ := b2.form
  obtain ⟨r3, t3, rfl, _⟩ := b3.form
  obtain ⟨r4, t4, rfl, _⟩ := Sl.form b4
  have A1 := Lib.hid a1
  have A2 := Lib.hid a2
  have A3 := Lib.hid a3
  have A4 := Lib.hid a4
  have B1 := Lib.hid b1
  have B2 := Lib.hid b2
  have B3 := Lib.hid b3
  have B4 := Lib.hid b4
  have hlm : (numC r.nums).length = r.nums.length := by unfold numC; simp
  have hl4 : (r.raw.map fun b : UInt8 => Value.int .u8 (b.toNat : Int)).length = r.raw.length := by simp
  rw [hlm] at A2 B2 ⊢
  rw [hl4]
  have e4 : Hid (BtRd (.slice p4 r.raw.length q4) r.raw w) := by rw [← hl4]; exact A4.out
  have f4 : Hid (BtRd (.slice r4 r.raw.length t4) r.raw w) := by rw [← hl4]; exact B4.out
  have RBr := Lib.hid rb
  clear a1 a2 a3 a4 b1 b2 b3 b4 A4 B4 hlm hl4 rb
  obtain ⟨Wb, hWb⟩ : ∃ W, (w.alloc (.cells #[.int .i64 r.type, .slice p1 r.names.length q1, .slice p2 r.nums.length q2, .slice p3 r.texts.length q3, .slice p4 r.raw.length q4] 99)).alloc (.cells #[.int .i64 r.type, .slice r1 r.names.length t1, .slice r2 r.nums.length t2, .slice r3 r.texts.length t3, .slice r4 r.raw.length t4] 99) = W := ⟨_, rfl⟩
  have HB : Hid (Below w.heap.size w Wb) := by show Below _ _ _; rw [← hWb]; exact ((Below.refl _ _).alloc (Nat.le_refl _) _).alloc (by simp) _
  have HA0 : Hid (Blk w.heap.size #[.int .i64 r.type, .slice p1 r.names.length q1, .slice p2 r.nums.length q2, .slice p3 r.texts.length q3, .slice p4 r.raw.length q4] 99 Wb) := by show Blk _ _ _ _; rw [← hWb]; exact (Blk.new w _ _).alloc _
  have HB0 : Hid (Blk (w.heap.size + 1) #[.int .i64 r.type, .slice r1 r.names.length t1, .slice r2 r.nums.length t2, .slice r3 r.texts.length t3, .slice r4 r.raw.length t4] 99 Wb) := by
    show Blk _ _ _ _
    have := Blk.new (w.alloc (.cells #[.int .i64 r.type, .slice p1 r.names.length q1, .slice p2 r.nums.length q2, .slice p3 r.texts.length q3, .slice p4 r.raw.length q4] 99)) #[.int .i64 r.type, .slice r1 r.names.length t1, .slice r2 r.nums.length t2, .slice r3 r.texts.length t3, .slice r4 r.raw.length t4] 99
    rw [World.size_alloc] at this
    rw [← hWb]; exact this
  have hca := conv_bt (e4.out.below HB.out)
  have hcb := conv_bt (f4.out.below HB.out)
  have a0 : Wb.cell? ⟨w.heap.size, 0, none⟩ = some (.int .i64 r.type) := HA0.out.cell 0
  have a1 : Wb.cell? ⟨w.heap.size, 1, none⟩ = some (.slice p1 r.names.length q1) := HA0.out.cell 1
  have a2 : Wb.cell? ⟨w.heap.size, 2, none⟩ = some (.slice p2 r.nums.length q2) := HA0.out.cell 2
  have a3 : Wb.cell? ⟨w.heap.size, 3, none⟩ = some (.slice p3 r.texts.length q3) := HA0.out.cell 3
  have a4 : Wb.cell? ⟨w.heap.size, 4, none⟩ = some (.slice p4 r.raw.length q4) := HA0.out.cell 4
  have b0 : Wb.cell? ⟨w.heap.size + 1, 0, none⟩ = some (.int .i64 r.type) := HB0.out.cell 0
  have b1 : Wb.cell? ⟨w.heap.size + 1, 1, none⟩ = some (.slice r1 r.names.length t1) := HB0.out.cell 1
  have b2 : Wb.cell? ⟨w.heap.size + 1, 2, none⟩ = some (.slice r2 r.nums.length t2) := HB0.out.cell 2
  have b3 : Wb.cell? ⟨w.heap.size + 1, 3, none⟩ = some (.slice r3 r.texts.length t3) := HB0.out.cell 3
  have b4 : Wb.cell? ⟨w.heap.size + 1, 4, none⟩ = some (.slice r4 r.raw.length t4) := HB0.out.cell 4
  refine (callsIn_wide (n := 0)).1 ?_
  refine callsIn_of_wp Tryz.func51 rfl trivial ?_ rfl
  simp only [Tryz.ntmps51, List.size_toArray, List.length_cons, List.length_nil, Nat.reduceAdd, Nat.reduceSub, Array.replicate_succ, Array.replicate_zero, List.push_toArray, List.append_toArray, List.nil_append, List.cons_append]
  gi_wp2_with fail
  clear a0 a1 a2 a3 a4 b0 b1 b2 b3 b4 hca hcb
  have RN : Hid (r.names.length ≤ 1000 ∧ r.nums.length ≤ 1000) := ⟨RBr.out.names.1, RBr.out.nums.1⟩
  gi_loopw [5] (fun vi W => ∃ i : Nat, i ≤ r.names.length ∧ vi = .int .i64 i ∧ Below Wb.heap.size Wb W) (fun vi _ => r.names.length - (intOf vi).toNat)
  case atStart => exact ⟨0, Nat.zero_le _, rfl, Below.refl _ _⟩
  case round =>
    obtain ⟨i, hi, rfl, hb⟩ := hrel
    have HBW := Lib.hid hb
    have HAW := Lib.hid (HA0.out.below hb)
    have HCW := Lib.hid (HB0.out.below hb)
    have hn1 : (r.names.length : Int) ≤ 1000 := by have := RN.out; omega
    have hn2 : (r.nums.length : Int) ≤ 1000 := by have := RN.out; omega
    have a0 : wr.cell? ⟨w.heap.size, 0, none⟩ = some (.int .i64 r.type) := HAW.out.cell 0
    have a1 : wr.cell? ⟨w.heap.size, 1, none⟩ = some (.slice p1 r.names.length q1) := HAW.out.cell 1
    have a2 : wr.cell? ⟨w.heap.size, 2, none⟩ = some (.slice p2 r.nums.length q2) := HAW.out.cell 2
    have a3 : wr.cell? ⟨w.heap.size, 3, none⟩ = some (.slice p3 r.texts.length q3) := HAW.out.cell 3
    have a4 : wr.cell? ⟨w.heap.size, 4, none⟩ = some (.slice p4 r.raw.length q4) := HAW.out.cell 4
    have b0 : wr.cell? ⟨w.heap.size + 1, 0, none⟩ = some (.int .i64 r.type) := HCW.out.cell 0
    have b1 : wr.cell? ⟨w.heap.size + 1, 1, none⟩ = some (.slice r1 r.names.length t1) := HCW.out.cell 1
    have b2 : wr.cell? ⟨w.heap.size + 1, 2, none⟩ = some (.slice r2 r.nums.length t2) := HCW.out.cell 2
    have b3 : wr.cell? ⟨w.heap.size + 1, 3, none⟩ = some (.slice r3 r.texts.length t3) := HCW.out.cell 3
    have b4 : wr.cell? ⟨w.heap.size + 1, 4, none⟩ = some (.slice r4 r.raw.length t4) := HCW.out.cell 4
    clear hb
    by_cases hlt : i < r.names.length
    · have hlz : (i : Int) < (r.names.length : Int) := by omega
      have hwb := below5 HB.out HBW.out
      have HWB := Lib.hid hwb
      obtain ⟨us, u1, u2, u3⟩ := A1.out
      obtain ⟨vs, v1, v2, v3⟩ := B1.out
      obtain ⟨ga, rfl, c1⟩ := u2.cells wr hwb i (by omega)
      obtain ⟨gb, rfl, d1⟩ := v2.cells wr hwb i (by omega)
      have hra := u3 i (by omega) hlt
      have hrb := v3 i (by omega) hlt
      obtain ⟨ya, hya⟩ : ∃ y, us[i]'(by omega) = y := ⟨_, rfl⟩
      obtain ⟨yb, hyb⟩ : ∃ y, vs[i]'(by omega) = y := ⟨_, rfl⟩
      rw [hya] at c1 hra
      rw [hyb] at d1 hrb
      obtain ⟨na, ca, rfl, _, _⟩ := hra.form
      obtain ⟨nb, cb, rfl, _, _⟩ := hrb.form
      obtain ⟨la, hla⟩ : ∃ n, r.names[i].length = n := ⟨_, rfl⟩
      rw [hla] at c1 d1 hra hrb
      obtain ⟨ea, hea⟩ : ∃ e, ga.add i = e := ⟨_, rfl⟩
      obtain ⟨eb, heb⟩ : ∃ e, gb.add i = e := ⟨_, rfl⟩
      rw [hea] at c1
      rw [heb] at d1
      have HCS : Hid (∀ W', Below wr.heap.size wr W' → Cs [(⟨w.heap.size, 1, none⟩, Value.slice (some ga) r.names.length q1), (⟨w.heap.size + 1, 1, none⟩, .slice (some gb) r.names.length t1), (ea, .slice na la ca), (eb, .slice nb la cb)] W') := fun W' hW => ⟨(hW.cell (cell_lt a1)).trans a1, (hW.cell (cell_lt b1)).trans b1, (hW.cell (cell_lt c1)).trans c1, (hW.cell (cell_lt d1)).trans d1, trivial⟩
      have HIS : Hid (∀ W', Below wr.heap.size wr W' → Calls Tryz.prog 15 #[.slice na la ca, .slice nb la cb] W' (Gives (.bool true) W')) := fun W' hW => by
        have := is_any _ _ r.names[i] r.names[i] W' (hra.below (below5 hwb hW)) (hrb.below (below5 hwb hW)) (RBr.out.names.2 _ (List.getElem_mem _)) (RBr.out.names.2 _ (List.getElem_mem _))
        rw [show (r.names[i] == r.names[i]) = true by simp] at this
        exact this
      clear hwb u1 u2 u3 v1 v2 v3 c1 d1 hra hrb hya hyb hla
      gi_wp2_with fail
      clear a0 a1 a2 a3 a4 b0 b1 b2 b3 b4
      refine drawnH (List.range 12) (Cs [(⟨w.heap.size, 1, none⟩, Value.slice (some ga) r.names.length q1), (⟨w.heap.size + 1, 1, none⟩, .slice (some gb) r.names.length t1), (ea, .slice na la ca), (eb, .slice nb la cb)]) 12 rfl (by kernel_rfl) ?_
      intro wa hwa
      have HWA : Hid (Below wr.heap.size wr wa) := by subst hwa; exact (Below.refl wr.heap.size wr).drew
      have hS := HCS.out wa HWA.out
      clear hwa
      refine takeH 0 (v := ?qav0) (fun _ => trivial) (by rfl) (by kernel_rfl) hS (.inl ⟨by kernel_rfl, fun w1 ⟨x0, x1, x2, x3, _⟩ => ?qay0⟩) ?_
      case qay0 => (go_simp; try first | rfl | (rw [if_pos (by omega)]) | (rw [if_neg (by omega)]) | (rw [if_neg (by simp; omega)]) | (split <;> first | (exfalso; omega) | rfl))
      refine takeH 1 (v := ?qav1) (fun _ => trivial) (by rfl) (by kernel_rfl) hS (.inl ⟨by kernel_rfl, fun w1 ⟨x0, x1, x2, x3, _⟩ => ?qay1⟩) ?_
      case qay1 => (go_simp; try first | rfl | (rw [if_pos (by omega)]) | (rw [if_neg (by omega)]) | (rw [if_neg (by simp; omega)]) | (split <;> first | (exfalso; omega) | rfl))
      refine takeH 2 (v := ?qav2) (fun _ => trivial) (by rfl) (by kernel_rfl) hS (.inl ⟨by kernel_rfl, fun w1 ⟨x0, x1, x2, x3, _⟩ => ?qay2⟩) ?_
      case qay2 => (go_simp; try first | rfl | (rw [if_pos (by omega)]) | (rw [if_neg (by omega)]) | (rw [if_neg (by simp; omega)]) | (split <;> first | (exfalso; omega) | rfl))
      refine takeH 3 (v := ?qav3) (fun _ => trivial) (by rfl) (by kernel_rfl) hS (.inl ⟨by kernel_rfl, fun w1 ⟨x0, x1, x2, x3, _⟩ => ?qay3⟩) ?_
      case qay3 => (go_simp; try first | rfl | (rw [if_pos (by omega)]) | (rw [if_neg (by omega)]) | (rw [if_neg (by simp; omega)]) | (split <;> first | (exfalso; omega) | rfl))
      refine takeH 4 (v := ?qav4) (fun _ => trivial) (by rfl) (by kernel_rfl) hS (.inl ⟨by kernel_rfl, fun w1 ⟨x0, x1, x2, x3, _⟩ => ?qay4⟩) ?_
      case qay4 => (go_simp; try first | rfl | (rw [if_pos (by omega)]) | (rw [if_neg (by omega)]) | (rw [if_neg (by simp; omega)]) | (split <;> first | (exfalso; omega) | rfl))
      refine takeH 5 (v := ?qav5) (fun _ => trivial) (by rfl) (by kernel_rfl) hS (.inl ⟨by kernel_rfl, fun w1 ⟨x0, x1, x2, x3, _⟩ => ?qay5⟩) ?_
      case qay5 => (go_simp; try first | rfl | (rw [if_pos (by omega)]) | (rw [if_neg (by omega)]) | (rw [if_neg (by simp; omega)]) | (split <;> first | (exfalso; omega) | rfl))
      refine takeH 6 (v := ?qav6) (fun _ => trivial) (by rfl) (by kernel_rfl) hS (.inl ⟨by kernel_rfl, fun w1 ⟨x0, x1, x2, x3, _⟩ => ?qay6⟩) ?_
      case qay6 => (go_simp; try first | rfl | (rw [if_pos (by omega)]) | (rw [if_neg (by omega)]) | (rw [if_neg (by simp; omega)]) | (split <;> first | (exfalso; omega) | rfl))
      refine takeH 7 (v := ?qav7) (fun _ => trivial) (by rfl) (by kernel_rfl) hS (.inl ⟨by kernel_rfl, fun w1 ⟨x0, x1, x2, x3, _⟩ => ?qay7⟩) ?_
      case qay7 => (go_simp; try first | rfl | (rw [if_pos (by omega)]) | (rw [if_neg (by omega)]) | (rw [if_neg (by simp; omega)]) | (split <;> first | (exfalso; omega) | rfl))
      simp only [Act.put, List.setIfInBounds_toArray, List.set_cons_succ, List.set_cons_zero]
      refine takeH 8 (v := ?qav8) (fun _ => trivial) (by rfl) (by kernel_rfl) hS (.inl ⟨by kernel_rfl, fun w1 ⟨x0, x1, x2, x3, _⟩ => ?qay8⟩) ?_
      case qay8 => (go_simp; try first | rfl | (rw [if_pos (by omega)]) | (rw [if_neg (by omega)]) | (rw [if_neg (by simp; omega)]) | (split <;> first | (exfalso; omega) | rfl))
      refine takeH 9 (v := ?qav9) (fun _ => trivial) (by rfl) (by kernel_rfl) hS (.inl ⟨by kernel_rfl, fun w1 ⟨x0, x1, x2, x3, _⟩ => ?qay9⟩) ?_
      case qay9 => (go_simp; try first | rfl | (rw [if_pos (by omega)]) | (rw [if_neg (by omega)]) | (rw [if_neg (by simp; omega)]) | (split <;> first | (exfalso; omega) | rfl))
      simp only [Act.put, List.setIfInBounds_toArray, List.set_cons_succ, List.set_cons_zero]
      refine oneH 10 (by rfl) (by kernel_rfl) (fun K hK => ?_)
      gi_wp2_with (gi_at_call 15; refine (callsIn_wide.2 (HIS.out wa HWA.out)).mono ?_; rintro e9 wb ⟨rfl, b9⟩)
      have HWB2 := Lib.hid (below5 HWA.out b9)
      replace hS := HCS.out wb HWB2.out
      refine hK _ _ (fun _ => hS) ?_
      clear hK K b9
      refine takeH 11 (v := ?qbv11) (fun _ => trivial) (by rfl) (by kernel_rfl) hS (.inl ⟨by kernel_rfl, fun w1 ⟨x0, x1, x2, x3, _⟩ => ?qby11⟩) ?_
      case qby11 => (go_simp; try first | rfl | (rw [if_pos (by omega)]) | (rw [if_neg (by omega)]) | (rw [if_neg (by simp; omega)]) | (split <;> first | (exfalso; omega) | rfl))
      simp only [Act.put, List.setIfInBounds_toArray, List.set_cons_succ, List.set_cons_zero]
      refine doneH (by kernel_rfl) ?_
      clear hS
      gi_wp2_with fail
      exact ⟨⟨i + 1, hlt, by go_num, below5 HBW.out HWB2.out⟩, by simp [intOf] <;> omega⟩
    · have hlz : ¬ ((i : Int) < (r.names.length : Int)) := by omega
      gi_wp2_with fail
      clear a0 a1 a2 a3 a4 b0 b1 b2 b3 b4
      have HBW0 := HBW
      generalize wr = wo at *
      gi_loopw [6] (fun vi W => ∃ j : Nat, j ≤ r.nums.length ∧ vi = .int .i64 j ∧ Below wo.heap.size wo W) (fun vi _ => r.nums.length - (intOf vi).toNat)
      case atStart => exact ⟨0, Nat.zero_le _, rfl, Below.refl _ _⟩
      case round =>
        obtain ⟨j, hj, rfl, hb⟩ := hrel
        have HBJ := Lib.hid (below5 HBW0.out hb)
        have HAJ := Lib.hid (HAW.out.below hb)
        have HCJ := Lib.hid (HCW.out.below hb)
        have HBO := Lib.hid hb
        have a0 : wr.cell? ⟨w.heap.size, 0, none⟩ = some (.int .i64 r.type) := HAJ.out.cell 0
        have a1 : wr.cell? ⟨w.heap.size, 1, none⟩ = some (.slice p1 r.names.length q1) := HAJ.out.cell 1
        have a2 : wr.cell? ⟨w.heap.size, 2, none⟩ = some (.slice p2 r.nums.length q2) := HAJ.out.cell 2
        have a3 : wr.cell? ⟨w.heap.size, 3, none⟩ = some (.slice p3 r.texts.length q3) := HAJ.out.cell 3
        have a4 : wr.cell? ⟨w.heap.size, 4, none⟩ = some (.slice p4 r.raw.length q4) := HAJ.out.cell 4
        have b0 : wr.cell? ⟨w.heap.size + 1, 0, none⟩ = some (.int .i64 r.type) := HCJ.out.cell 0
        have b1 : wr.cell? ⟨w.heap.size + 1, 1, none⟩ = some (.slice r1 r.names.length t1) := HCJ.out.cell 1
        have b2 : wr.cell? ⟨w.heap.size + 1, 2, none⟩ = some (.slice r2 r.nums.length t2) := HCJ.out.cell 2
        have b3 : wr.cell? ⟨w.heap.size + 1, 3, none⟩ = some (.slice r3 r.texts.length t3) := HCJ.out.cell 3
        have b4 : wr.cell? ⟨w.heap.size + 1, 4, none⟩ = some (.slice r4 r.raw.length t4) := HCJ.out.cell 4
        clear hb
        by_cases hlt2 : j < r.nums.length
        · have hlz2 : (j : Int) < (r.nums.length : Int) := by omega
          have hwb := below5 HB.out HBJ.out
          have hnl : (numC r.nums).length = r.nums.length := by unfold numC; simp
          obtain ⟨ga, rfl, c1⟩ := A2.out.cells wr hwb j (by rw [hnl]; exact hlt2)
          obtain ⟨gb, rfl, d1⟩ := B2.out.cells wr hwb j (by rw [hnl]; exact hlt2)
          obtain ⟨y, hy⟩ : ∃ y, r.nums[j] = y := ⟨_, rfl⟩
          have hny : ∀ h, (numC r.nums)[j]'h = .int .u32 (y : Int) := fun h => by simp only [numC, List.getElem_map, hy]
          rw [hny] at c1 d1
          obtain ⟨ea, hea⟩ : ∃ e, ga.add j = e := ⟨_, rfl⟩
          obtain ⟨eb, heb⟩ : ∃ e, gb.add j = e := ⟨_, rfl⟩
          rw [hea] at c1
          rw [heb] at d1
          have HCS : Hid (∀ W', Below wr.heap.size wr W' → Cs [(⟨w.heap.size, 2, none⟩, Value.slice (some ga) r.nums.length q2), (⟨w.heap.size + 1, 2, none⟩, .slice (some gb) r.nums.length t2), (ea, .int .u32 (y : Int)), (eb, .int .u32 (y : Int))] W') := fun W' hW => ⟨(hW.cell (cell_lt a2)).trans a2, (hW.cell (cell_lt b2)).trans b2, (hW.cell (cell_lt c1)).trans c1, (hW.cell (cell_lt d1)).trans d1, trivial⟩
          clear hwb hnl hny hy c1 d1
          gi_wp2_with fail
          clear a0 a1 a2 a3 a4 b0 b1 b2 b3 b4
          refine drawnH (List.range 11) (Cs [(⟨w.heap.size, 2, none⟩, Value.slice (some ga) r.nums.length q2), (⟨w.heap.size + 1, 2, none⟩, .slice (some gb) r.nums.length t2), (ea, .int .u32 (y : Int)), (eb, .int .u32 (y : Int))]) 11 rfl (by kernel_rfl) ?_
          intro wa hwa
          have HWA : Hid (Below wr.heap.size wr wa) := by subst hwa; exact (Below.refl wr.heap.size wr).drew
          have hS := HCS.out wa HWA.out
          clear hwa
          refine takeH 0 (v := ?qcv0) (fun _ => trivial) (by rfl) (by kernel_rfl) hS (.inl ⟨by kernel_rfl, fun w1 ⟨x0, x1, x2, x3, _⟩ => ?qcy0⟩) ?_
          case qcy0 => (go_simp; try first | rfl | (rw [if_pos (by omega)]) | (rw [if_neg (by omega)]) | (rw [if_neg (by simp; omega)]) | (split <;> first | (exfalso; omega) | rfl))
          refine takeH 1 (v := ?qcv1) (fun _ => trivial) (by rfl) (by kernel_rfl) hS (.inl ⟨by kernel_rfl, fun w1 ⟨x0, x1, x2, x3, _⟩ => ?qcy1⟩) ?_
          case qcy1 => (go_simp; try first | rfl | (rw [if_pos (by omega)]) | (rw [if_neg (by omega)]) | (rw [if_neg (by simp; omega)]) | (split <;> first | (exfalso; omega) | rfl))
          refine takeH 2 (v := ?qcv2) (fun _ => trivial) (by rfl) (by kernel_rfl) hS (.inl ⟨by kernel_rfl, fun w1 ⟨x0, x1, x2, x3, _⟩ => ?qcy2⟩) ?_
          case qcy2 => (go_simp; try first | rfl | (rw [if_pos (by omega)]) | (rw [if_neg (by omega)]) | (rw [if_neg (by simp; omega)]) | (split <;> first | (exfalso; omega) | rfl))
          refine takeH 3 (v := ?qcv3) (fun _ => trivial) (by rfl) (by kernel_rfl) hS (.inl ⟨by kernel_rfl, fun w1 ⟨x0, x1, x2, x3, _⟩ => ?qcy3⟩) ?_
          case qcy3 => (go_simp; try first | rfl | (rw [if_pos (by omega)]) | (rw [if_neg (by omega)]) | (rw [if_neg (by simp; omega)]) | (split <;> first | (exfalso; omega) | rfl))
          refine takeH 4 (v := ?qcv4) (fun _ => trivial) (by rfl) (by kernel_rfl) hS (.inl ⟨by kernel_rfl, fun w1 ⟨x0, x1, x2, x3, _⟩ => ?qcy4⟩) ?_
          case qcy4 => (go_simp; try first | rfl | (rw [if_pos (by omega)]) | (rw [if_neg (by omega)]) | (rw [if_neg (by simp; omega)]) | (split <;> first | (exfalso; omega) | rfl))
          refine takeH 5 (v := ?qcv5) (fun _ => trivial) (by rfl) (by kernel_rfl) hS (.inl ⟨by kernel_rfl, fun w1 ⟨x0, x1, x2, x3, _⟩ => ?qcy5⟩) ?_
          case qcy5 => (go_simp; try first | rfl | (rw [if_pos (by omega)]) | (rw [if_neg (by omega)]) | (rw [if_neg (by simp; omega)]) | (split <;> first | (exfalso; omega) | rfl))
          refine takeH 6 (v := ?qcv6) (fun _ => trivial) (by rfl) (by kernel_rfl) hS (.inl ⟨by kernel_rfl, fun w1 ⟨x0, x1, x2, x3, _⟩ => ?qcy6⟩) ?_
          case qcy6 => (go_simp; try first | rfl | (rw [if_pos (by omega)]) | (rw [if_neg (by omega)]) | (rw [if_neg (by simp; omega)]) | (split <;> first | (exfalso; omega) | rfl))
          refine takeH 7 (v := ?qcv7) (fun _ => trivial) (by rfl) (by kernel_rfl) hS (.inl ⟨by kernel_rfl, fun w1 ⟨x0, x1, x2, x3, _⟩ => ?qcy7⟩) ?_
          case qcy7 => (go_simp; try first | rfl | (rw [if_pos (by omega)]) | (rw [if_neg (by omega)]) | (rw [if_neg (by simp; omega)]) | (split <;> first | (exfalso; omega) | rfl))
          simp only [Act.put, List.setIfInBounds_toArray, List.set_cons_succ, List.set_cons_zero]
          refine takeH 8 (v := ?qcv8) (fun _ => trivial) (by rfl) (by kernel_rfl) hS (.inl ⟨by kernel_rfl, fun w1 ⟨x0, x1, x2, x3, _⟩ => ?qcy8⟩) ?_
          case qcy8 => (go_simp; try first | rfl | (rw [if_pos (by omega)]) | (rw [if_neg (by omega)]) | (rw [if_neg (by simp; omega)]) | (split <;> first | (exfalso; omega) | rfl))
          refine takeH 9 (v := ?qcv9) (fun _ => trivial) (by rfl) (by kernel_rfl) hS (.inl ⟨by kernel_rfl, fun w1 ⟨x0, x1, x2, x3, _⟩ => ?qcy9⟩) ?_
          case qcy9 => (go_simp; try first | rfl | (rw [if_pos (by omega)]) | (rw [if_neg (by omega)]) | (rw [if_neg (by simp; omega)]) | (split <;> first | (exfalso; omega) | rfl))
          refine takeH 10 (v := ?qcv10) (fun _ => trivial) (by rfl) (by kernel_rfl) hS (.inl ⟨by kernel_rfl, fun w1 ⟨x0, x1, x2, x3, _⟩ => ?qcy10⟩) ?_
          case qcy10 => (go_simp; try first | rfl | (rw [if_pos (by omega)]) | (rw [if_neg (by omega)]) | (rw [if_neg (by simp; omega)]) | (split <;> first | (exfalso; omega) | rfl))
          simp only [Act.put, List.setIfInBounds_toArray, List.set_cons_succ, List.set_cons_zero]
          refine doneH (by kernel_rfl) ?_
          clear hS
          gi_wp2_with fail
          exact ⟨⟨j + 1, hlt2, by go_num, below5 HBO.out HWA.out⟩, by simp [intOf] <;> omega⟩
        · have hlz2 : ¬ ((j : Int) < (r.nums.length : Int)) := by omega
          have HIS := Lib.hid (isLen_any _ _ r.texts r.texts wr (A3.out.below (below5 HB.out HBJ.out)) (B3.out.below (below5 HB.out HBJ.out)) RBr.out.texts RBr.out.texts)
          have hbe : (r.texts == r.texts) = true := by simp
          rw [hbe] at HIS
          clear hbe
          gi_wp2_with (gi_at_call 15; refine (callsIn_wide.2 HIS.out).mono ?_; rintro e9 wb ⟨rfl, b9⟩)
          go_ret
          exact ⟨rfl, below5 (below5 HB.out HBJ.out) b9⟩
end Go.Proofs.YtneghhbclefmoaaGreat
end
section
namespace Go.Proofs.YtneghhbclefmoaaGreat
open Go.RowKit Go.Shelf Go.Sort
set_option maxRecDepth 100000

set_option maxHeartbeats 1000000 in
theorem isAll_any {w w0 : World} (v u : Value) (k k' : List (El w)) (hb0 : Below w.heap.size w w0) (hv : DatsRd v k w0) (hu : DatsRd u k' w0) (he : plE k = plE k') (nk : k.length ≤ 1000) (hd : ∀ x ∈ k, DF x.1.2) :
    Calls Tryz.prog 27 #[v, u] w0 (TrE w0) := by
  have hlen : k'.length = k.length := by have := congrArg List.length he; rw [plE_len, plE_len] at this; exact this.symm
  obtain ⟨ov, cv, rfl, _⟩ := hv.form
  obtain ⟨ou, cu, rfl, _⟩ := hu.form
  have HV := Lib.hid hv.el
  have HU := Lib.hid hu.el
  have HB0 := Lib.hid hb0
  have HE := Lib.hid he
  have HD := Lib.hid hd
  have HLN := Lib.hid hlen
  rw [hlen]
  have lz : (k.length : Int) ≤ 1000 := by omega
  clear hv hu hb0 he hd hlen
  refine (callsIn_wide (n := 0)).1 ?_
  refine callsIn_of_wp Tryz.func27 rfl trivial ?_ rfl
  simp only [Tryz.ntmps27, List.size_toArray, List.length_cons, List.length_nil, Nat.reduceAdd, Nat.reduceSub, Array.replicate_succ, Array.replicate_zero, List.push_toArray, List.append_toArray, List.nil_append, List.cons_append]
  gi_wp2_with fail
  gi_loopw [5] (fun vi W => ∃ i : Nat, i ≤ k.length ∧ vi = .int .i64 i ∧ Below w0.heap.size w0 W) (fun vi _ => k.length - (intOf vi).toNat)
  case atStart => exact ⟨0, Nat.zero_le _, rfl, Below.refl _ _⟩
  case round =>
    obtain ⟨i, hi, rfl, hb⟩ := hrel
    have HB := Lib.hid hb
    by_cases hlt : i < k.length
    · have hlz : (i : Int) < (k.length : Int) := by omega
      have hlt' : i < k'.length := by rw [HLN.out]; exact hlt
      obtain ⟨x, hx⟩ : ∃ x, k[i] = x := ⟨_, rfl⟩
      obtain ⟨y, hy⟩ : ∃ y, k'[i] = y := ⟨_, rfl⟩
      have hxy : x.1.2 = y.1.2 := by
        have h1 : (plE k)[i]? = (plE k')[i]? := by rw [HE.out]
        rw [plE, plE, List.getElem?_map, List.getElem?_map, List.getElem?_eq_getElem hlt, List.getElem?_eq_getElem hlt', hx, hy] at h1
        exact Option.some.inj h1
      obtain ⟨us, p1, q1, p2, n2, q2, p3, n3, q3, p4, n4, q4, ex, ha1, ha2, ha3, hdx⟩ := x.data
      obtain ⟨vs, r1, t1, r2, m2, t2, r3, m3, t3, r4, m4, t4, ey, hc1, hc2, hc3, hdy⟩ := y.data
      clear ha1 ha2 ha3 hc1 hc2 hc3
      obtain ⟨ga, rfl, _⟩ := HV.out _ hb i hlt _ _ _ _ _ (by rw [hx]; exact ex)
      obtain ⟨gb, rfl, _⟩ := HU.out _ hb i hlt' _ _ _ _ _ (by rw [hy]; exact ey)
      obtain ⟨ea, hea⟩ : ∃ e, ga.add (i * 5) = e := ⟨_, rfl⟩
      obtain ⟨eb, heb⟩ : ∃ e, gb.add (i * 5) = e := ⟨_, rfl⟩
      have HCS : Hid (∀ W', Below w0.heap.size w0 W' → Cs [(ea, Value.int .i64 x.1.2.type), (⟨ea.block, ea.off + 1, none⟩, .slice p1 us.length q1), (⟨ea.block, ea.off + 2, none⟩, .slice p2 n2 q2), (⟨ea.block, ea.off + 3, none⟩, .slice p3 n3 q3), (⟨ea.block, ea.off + 4, none⟩, .slice p4 n4 q4), (eb, .int .i64 y.1.2.type), (⟨eb.block, eb.off + 1, none⟩, .slice r1 vs.length t1), (⟨eb.block, eb.off + 2, none⟩, .slice r2 m2 t2), (⟨eb.block, eb.off + 3, none⟩, .slice r3 m3 t3), (⟨eb.block, eb.off + 4, none⟩, .slice r4 m4 t4)] W') := fun W' hW => by
        obtain ⟨a, ha, c0, c1, c2, c3, c4⟩ := HV.out _ hW i hlt _ _ _ _ _ (by rw [hx]; exact ex)
        obtain ⟨b, hb, d0, d1, d2, d3, d4⟩ := HU.out _ hW i hlt' _ _ _ _ _ (by rw [hy]; exact ey)
        cases ha; cases hb
        rw [hea] at c0 c1 c2 c3 c4
        rw [heb] at d0 d1 d2 d3 d4
        exact ⟨c0, c1, c2, c3, c4, d0, d1, d2, d3, d4, trivial⟩
      rw [ex] at hdx
      rw [ey] at hdy
      have HDX := Lib.hid hdx
      have HDY := Lib.hid hdy
      have HXY := Lib.hid hxy
      have HDF : Hid (DF x.1.2) := HD.out x (by rw [← hx]; exact List.getElem_mem _)
      clear hb hx hy ex ey hdx hdy hxy
      gi_wp2_with fail
      refine drawnH (List.range 11) (Cs [(ea, Value.int .i64 x.1.2.type), (⟨ea.block, ea.off + 1, none⟩, .slice p1 us.length q1), (⟨ea.block, ea.off + 2, none⟩, .slice p2 n2 q2), (⟨ea.block, ea.off + 3, none⟩, .slice p3 n3 q3), (⟨ea.block, ea.off + 4, none⟩, .slice p4 n4 q4), (eb, .int .i64 y.1.2.type), (⟨eb.block, eb.off + 1, none⟩, .slice r1 vs.length t1), (⟨eb.block, eb.off + 2, none⟩, .slice r2 m2 t2), (⟨eb.block, eb.off + 3, none⟩, .slice r3 m3 t3), (⟨eb.block, eb.off + 4, none⟩, .slice r4 m4 t4)]) 11 rfl (by kernel_rfl) ?_
      intro wa hwa
      have HWA : Hid (Below w0.heap.size w0 wa) := by subst hwa; exact HB.out.drew
      have hS := HCS.out wa HWA.out
      clear hwa
      refine takeH 0 (v := ?qav0) (fun _ => trivial) (by rfl) (by kernel_rfl) hS (.inl ⟨by kernel_rfl, fun w1 ⟨x0, x1, x2, x3, x4, x5, x6, x7, x8, x9, _⟩ => ?qay0⟩) ?_
      case qay0 => (go_simp; try first | rfl | (rw [if_pos (by omega)]) | (rw [if_neg (by omega)]) | (rw [if_neg (by simp; omega)]) | (split <;> first | (exfalso; omega) | rfl))
      refine takeH 1 (v := ?qav1) (fun _ => trivial) (by rfl) (by kernel_rfl) hS (.inl ⟨by kernel_rfl, fun w1 ⟨x0, x1, x2, x3, x4, x5, x6, x7, x8, x9, _⟩ => ?qay1⟩) ?_
      case qay1 => (go_simp; try first | rfl | (rw [if_pos (by omega)]) | (rw [if_neg (by omega)]) | (rw [if_neg (by simp; omega)]) | (split <;> first | (exfalso; omega) | rfl))
      refine takeH 2 (v := ?qav2) (fun _ => trivial) (by rfl) (by kernel_rfl) hS (.inl ⟨by kernel_rfl, fun w1 ⟨x0, x1, x2, x3, x4, x5, x6, x7, x8, x9, _⟩ => ?qay2⟩) ?_
      case qay2 => (go_simp; try first | rfl | (rw [if_pos (by omega)]) | (rw [if_neg (by omega)]) | (rw [if_neg (by simp; omega)]) | (split <;> first | (exfalso; omega) | rfl))
      refine takeH 3 (v := ?qav3) (fun _ => trivial) (by rfl) (by kernel_rfl) hS (.inl ⟨by kernel_rfl, fun w1 ⟨x0, x1, x2, x3, x4, x5, x6, x7, x8, x9, _⟩ => ?qay3⟩) ?_
      case qay3 => (go_simp; try first | rfl | (rw [if_pos (by omega)]) | (rw [if_neg (by omega)]) | (rw [if_neg (by simp; omega)]) | (split <;> first | (exfalso; omega) | rfl))
      refine takeH 5 (v := ?qav5) (fun _ => trivial) (by rfl) (by kernel_rfl) hS (.inl ⟨by kernel_rfl, fun w1 ⟨x0, x1, x2, x3, x4, x5, x6, x7, x8, x9, _⟩ => ?qay5⟩) ?_
      case qay5 => (go_simp; try first | rfl | (rw [if_pos (by omega)]) | (rw [if_neg (by omega)]) | (rw [if_neg (by simp; omega)]) | (split <;> first | (exfalso; omega) | rfl))
      refine takeH 6 (v := ?qav6) (fun _ => trivial) (by rfl) (by kernel_rfl) hS (.inl ⟨by kernel_rfl, fun w1 ⟨x0, x1, x2, x3, x4, x5, x6, x7, x8, x9, _⟩ => ?qay6⟩) ?_
      case qay6 => (go_simp; try first | rfl | (rw [if_pos (by omega)]) | (rw [if_neg (by omega)]) | (rw [if_neg (by simp; omega)]) | (split <;> first | (exfalso; omega) | rfl))
      refine takeH 7 (v := ?qav7) (fun _ => trivial) (by rfl) (by kernel_rfl) hS (.inl ⟨by kernel_rfl, fun w1 ⟨x0, x1, x2, x3, x4, x5, x6, x7, x8, x9, _⟩ => ?qay7⟩) ?_
      case qay7 => (go_simp; try first | rfl | (rw [if_pos (by omega)]) | (rw [if_neg (by omega)]) | (rw [if_neg (by simp; omega)]) | (split <;> first | (exfalso; omega) | rfl))
      refine takeH 8 (v := ?qav8) (fun _ => trivial) (by rfl) (by kernel_rfl) hS (.inl ⟨by kernel_rfl, fun w1 ⟨x0, x1, x2, x3, x4, x5, x6, x7, x8, x9, _⟩ => ?qay8⟩) ?_
      case qay8 => (go_simp; try first | rfl | (rw [if_pos (by omega)]) | (rw [if_neg (by omega)]) | (rw [if_neg (by simp; omega)]) | (split <;> first | (exfalso; omega) | rfl))
      simp only [Act.put, List.setIfInBounds_toArray, List.set_cons_succ, List.set_cons_zero]
      refine oneH 4 (by rfl) (by kernel_rfl) (fun K hK => ?_)
      gi_wp2_with (gi_at_call 65; refine (callsIn_wide.2 (ofD_any [.int .i64 x.1.2.type, .slice p1 us.length q1, .slice p2 n2 q2, .slice p3 n3 q3, .slice p4 n4 q4] x.1.2 w wa HDX.out HDF.out (below5 HB0.out HWA.out))).mono ?_; rintro e9 wb ⟨c0, c1, c2, c3, c4, rfl, hof, b9⟩)
      have HWB := Lib.hid (below5 HWA.out b9)
      have HOF := Lib.hid (hof.dat (below5 HB0.out (below5 HWA.out b9)))
      replace hS := HCS.out wb HWB.out
      refine hK _ _ (fun _ => hS) ?_
      clear hK K b9 hof
      refine oneH 9 (by rfl) (by kernel_rfl) (fun K hK => ?_)
      gi_wp2_with (gi_at_call 51; refine (callsIn_wide.2 (lawIs_any [c0, c1, c2, c3, c4] [.int .i64 y.1.2.type, .slice r1 vs.length t1, .slice r2 m2 t2, .slice r3 m3 t3, .slice r4 m4 t4] x.1.2 wb HOF.out (by rw [HXY.out]; exact HDY.out.below (below5 HB0.out HWB.out)) x.2.2)).mono ?_; rintro e9 wc ⟨rfl, b9⟩)
      have HWC := Lib.hid (below5 HWB.out b9)
      replace hS := HCS.out wc HWC.out
      refine hK _ _ (fun _ => hS) ?_
      clear hK K b9
      refine takeH 10 (v := ?qcv10) (fun _ => trivial) (by rfl) (by kernel_rfl) hS (.inl ⟨by kernel_rfl, fun w1 ⟨x0, x1, x2, x3, x4, x5, x6, x7, x8, x9, _⟩ => ?qcy10⟩) ?_
      case qcy10 => (go_simp; try first | rfl | (rw [if_pos (by omega)]) | (rw [if_neg (by omega)]) | (rw [if_neg (by simp; omega)]) | (split <;> first | (exfalso; omega) | rfl))
      simp only [Act.put, List.setIfInBounds_toArray, List.set_cons_succ, List.set_cons_zero]
      refine doneH (by kernel_rfl) ?_
      clear hS
      gi_wp2_with fail
      exact ⟨⟨i + 1, hlt, by go_num, HWC.out⟩, by simp [intOf] <;> omega⟩
    · have hlz : ¬ ((i : Int) < (k.length : Int)) := by omega
      clear hb
      gi_wp2_with fail
      go_ret
      exact ⟨rfl, HB.out⟩
end Go.Proofs.YtneghhbclefmoaaGreat
end
section
namespace Go.Proofs.YtneghhbclefmoaaGreat
open Go.RowKit Go.Shelf Go.Sort
set_option maxRecDepth 100000

namespace Rs
open Rc
/-- what a record's place in the canonical row has but its TTL, it had before -/
theorem put_all {p : PRec → Prop} (hp : ∀ (y : PRec) (t : Nat), p y → p { y with ttl := t }) {x : PRec} (hx : p x) : ∀ {L : List PRec}, (∀ z ∈ L, p z) → ∀ z ∈ put x L, p z
  | [], _, z, hz => by
    simp only [put, List.mem_singleton] at hz; subst hz; exact hx
  | y :: L, h, z, hz => by
    rw [put_cons] at hz
    split at hz
    · rcases List.mem_cons.1 hz with rfl | hz
      · exact h _ List.mem_cons_self
      · exact put_all hp hx (fun z hz => h z (List.mem_cons_of_mem _ hz)) z hz
    · split at hz
      · rcases List.mem_cons.1 hz with rfl | hz
        · split
          · exact hp _ _ (h y List.mem_cons_self)
          · exact h y List.mem_cons_self
        · exact h z (List.mem_cons_of_mem _ hz)
      · rcases List.mem_cons.1 hz with rfl | hz
        · exact hx
        · exact h z hz
theorem foldl_all {p : PRec → Prop} (hp : ∀ (y : PRec) (t : Nat), p y → p { y with ttl := t }) : ∀ (l L : List PRec), (∀ z ∈ l, p z) → (∀ z ∈ L, p z) → ∀ z ∈ l.foldl (fun c x => put x c) L, p z
  | [], _, _, h => h
  | x :: l, L, h1, h2 => foldl_all hp l (put x L) (fun z hz => h1 z (List.mem_cons_of_mem _ hz)) (put_all hp (h1 x List.mem_cons_self) h2)
theorem canon_all {p : PRec → Prop} (hp : ∀ (y : PRec) (t : Nat), p y → p { y with ttl := t }) (l : List PRec) (h : ∀ z ∈ l, p z) : ∀ z ∈ canon l, p z := by
  rw [canon_eq]
  exact foldl_all hp l [] h (by simp)
theorem run_mem {x : PRec} : ∀ {g : List PRec}, run x g = g.length → ∀ z ∈ g, P x z = true
  | [], _, z, hz => by cases hz
  | y :: g, h, z, hz => by
    unfold run at h
    by_cases hy : P x y = true
    · simp only [List.takeWhile_cons, hy, if_true, List.length_cons] at h
      rcases List.mem_cons.1 hz with rfl | hz
      · exact hy
      · exact run_mem (by unfold run; omega) z hz
    · simp [hy] at h
theorem grpF_flat : ∀ (f : Nat) (l : List PRec), l.length ≤ f → (grpF f l).flatten = l
  | 0, l, h => by
    have : l = [] := List.length_eq_zero_iff.1 (by omega)
    subst this; rfl
  | f + 1, [], _ => rfl
  | f + 1, x :: l, h => by
    show (_ :: grpF f _).flatten = _
    have hp := run_pos x l
    rw [List.flatten_cons, grpF_flat f _ (by rw [List.length_drop, List.length_cons]; simp only [List.length_cons] at h; omega), List.take_append_drop]
/-- the types of the groups of one owner -/
def tys (o : List (List UInt8)) (gs : List (List PRec)) : List Int := ((gs.filterMap List.head?).filter fun x => Nm.same x.owner o).map PRec.type
/-- the groups of the canonical row -/
abbrev G (l : List PRec) : List (List PRec) := grpF (canon l).length (canon l)
theorem G_of {l : List PRec} {r : PRec} (h : r ∈ canon l) : ∃ x xs, x :: xs ∈ G l ∧ P x r = true ∧ r ∈ x :: xs := by
  have hf := grpF_flat (canon l).length (canon l) (Nat.le_refl _)
  rw [← hf] at h
  obtain ⟨g, hg, hr⟩ := List.mem_flatten.1 h
  obtain ⟨x, xs, rfl, _, h3, _⟩ := grp_found hg
  exact ⟨x, xs, hg, run_mem h3 r hr, hr⟩
def hasP (o : List (List UInt8)) (t : Int) : List PRec → Bool
  | [] => false
  | x :: _ => (x.type == t) && Nm.same x.owner o
theorem mine_find (l : List PRec) (o : List (List UInt8)) (t : Int) : mine l o t = ((G l).find? (hasP o t)).getD [] ∧ ∀ g, (G l).find? (hasP o t) = some g → ∃ x xs, g = x :: xs ∧ run x g = g.length := by
  have hm : mine l o t = (canon l).filter (Q o t) := by unfold mine; exact canon_filter (Q_inv _ _) l
  cases hf : (G l).find? (hasP o t) with
  | none =>
    refine ⟨?_, fun g h => by cases h⟩
    rw [hm]
    show _ = []
    rw [List.filter_eq_nil_iff]
    intro r hr hq
    obtain ⟨x, xs, hx, hp, _⟩ := G_of hr
    have hn := List.find?_eq_none.1 hf _ hx
    refine hn ?_
    unfold P at hp
    unfold Q at hq
    rw [Bool.and_eq_true, beq_iff_eq] at hp hq
    unfold hasP
    rw [Bool.and_eq_true, beq_iff_eq]
    refine ⟨by rw [hp.1, hq.1], ?_⟩
    have h1 := hp.2
    have h2 := hq.2
    unfold Nm.same at h1 h2 ⊢
    rw [beq_iff_eq] at h1 h2 ⊢
    rw [h1, h2]
  | some g =>
    have hg : g ∈ G l := List.mem_of_find?_eq_some hf
    have hk : hasP o t g = true := List.find?_some hf
    obtain ⟨x, xs, rfl, h1, h2, _⟩ := grp_found hg
    refine ⟨?_, fun g h => by cases h; exact ⟨x, xs, rfl, h2⟩⟩
    show _ = x :: xs
    rw [← h1]
    unfold hasP at hk
    rw [Bool.and_eq_true, beq_iff_eq] at hk
    have hs : Nm.fold x.owner = Nm.fold o := by
      have := hk.2
      unfold Nm.same at this
      rwa [beq_iff_eq] at this
    have hQ : Q o t = Q x.owner x.type := by
      funext r
      unfold Q Nm.same
      rw [hk.1, hs]
    unfold mine
    rw [hQ]
end Rs
section
variable {w : World}
theorem find_map (o : List (List UInt8)) (t : Int) : ∀ ks : List (List (El w)), (ks.map plE).find? (Rs.hasP o t) = (ks.find? (hasKey o t)).map plE
  | [] => rfl
  | k :: ks => by
    have e : Rs.hasP o t (plE k) = hasKey o t k := by cases k <;> rfl
    rw [List.map_cons, List.find?_cons, List.find?_cons, e]
    cases hasKey o t k with
    | true => rfl
    | false => exact find_map o t ks
theorem DF.ttl {r : Rc.PRec} (h : DF r) (t : Nat) : DF { r with ttl := t } := ⟨h.names, h.nums, h.texts, h.raw, h.name, h.text⟩
theorem mem_grp {c : List (El w)} {k : List (El w)} (hk : k ∈ grp c) {x : El w} (hx : x ∈ k) : x ∈ c := by
  rw [← grp_flat c]; exact List.mem_flatten.2 ⟨k, hk, hx⟩
end
end Go.Proofs.YtneghhbclefmoaaGreat
end
