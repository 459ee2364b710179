/- Sets of records: two addresses of one name, and what they are. -/
import Derived.Test.YtneghhbclefmoaaGreatKSeW
import Derived.Test.YtneghhbclefmoaaGreatKZnM
import Derived.Test.YtneghhbclefmoaaGreatKZnO
section
namespace Go.Proofs.YtneghhbclefmoaaGreat
open Go.RowKit Go.Shelf Go.Sort
set_option maxRecDepth 100000
namespace Rs
open Rc
def grpF : Nat -> List PRec -> List (List PRec)
 | 0, _ => []
 | _, [] => []
 | f + 1, x :: l => (x :: l).take (run x (x :: l)) :: grpF f ((x :: l).drop (run x (x :: l)))
end Rs
theorem plE_grpE {w : World} : ∀ (f : Nat) (l : List (El w)), (grpE f l).map plE = Rs.grpF f (plE l)
 | 0, _ => rfl
 | f + 1, [] => rfl
 | f + 1, x :: l => by
  show plE _ :: (grpE f _).map plE = _ :: Rs.grpF f _
  rw [plE_grpE f]
  simp [plE, List.map_take, List.map_drop]
theorem plE_len {w : World} (l : List (El w)) : (plE l).length = l.length := by simp [plE]
theorem plE_grp {w : World} (l : List (El w)) : (grp l).map plE = Rs.grpF (plE l).length (plE l) := by rw [plE_len]; exact plE_grpE _ _
abbrev Rs.ka : Rc.PRec := ⟨[[97]], 9, 1, [], [], [], [2, 2, 2, 2]⟩
abbrev Rs.kb : Rc.PRec := ⟨[[97]], 5, 1, [], [], [], [1, 1, 1, 1]⟩
abbrev Rs.kc : Rc.PRec := ⟨[[97]], 7, 2, [[[120]]], [], [], []⟩
theorem Rs.k_canon : Rc.canon [Rs.ka, Rs.kb, Rs.kc] = [Rs.kb, Rs.ka, Rs.kc] := by kernel_rfl
theorem Rs.k_types : Rs.types [Rs.ka, Rs.kb, Rs.kc] [[97]] = [1, 2] := by
 unfold Rs.types
 rw [show ((([Rs.ka, Rs.kb, Rs.kc] : List Rc.PRec).filter fun r => Nm.same r.owner [[97]]).map (·.type)) = [1, 1, 2] by kernel_rfl, List.mergeSort_of_pairwise (by decide)]
 decide +kernel
end Go.Proofs.YtneghhbclefmoaaGreat
end
section
namespace Go.Proofs.YtneghhbclefmoaaGreat
open Go.RowKit Go.Shelf Go.Sort
set_option maxRecDepth 100000
def Cs : List (Addr × Value) -> World -> Prop
 | [], _ => True
 | p :: l, W => W.cell? p.1 = some p.2 /\ Cs l W
theorem Cs.below : ∀ {l : List (Addr × Value)} {W W' : World}, Cs l W -> Below W.heap.size W W' -> Cs l W'
 | [], _, _, _, _ => trivial
 | _ :: _, _, _, h, hb => ⟨(hb.cell (cell_lt h.1)).trans h.1, Cs.below h.2 hb⟩
theorem Cs.drew : ∀ {l : List (Addr × Value)} {W : World}, Cs l W -> Cs l W.drew
 | [], _, _ => trivial
 | _ :: _, _, h => ⟨h.1, Cs.drew h.2⟩
end Go.Proofs.YtneghhbclefmoaaGreat
end
section
namespace Go.Proofs.YtneghhbclefmoaaGreat
open Go.RowKit Go.Shelf Go.Sort
set_option maxRecDepth 100000
namespace Rs
open Rc
def cmpK (a b : PRec) : Int := orI (Nm.cmp a.owner b.owner) (Nm.sgn a.type b.type)
theorem cmpK_cm : Cm cmpK := (name_cm.pull PRec.owner).or (sgn_cm.pull PRec.type)
theorem sgn_self (a : Int) : Nm.sgn a a = 0 := by unfold Nm.sgn; simp
theorem cmpK_zero {a b : PRec} : cmpK a b = 0 ↔ P a b = true := by
 unfold cmpK P
 rw [orI_zero, Bool.and_eq_true, beq_iff_eq]
 have h := Nm.cmp_zero a.owner b.owner
 constructor
 ·rintro ⟨h1, h2⟩
  refine ⟨sgn_zero h2, ?_⟩
  rw [h1] at h; exact h.symm
 ·rintro ⟨h1, h2⟩
  rw [h2] at h
  exact ⟨by simpa using h, by rw [h1]; exact sgn_self _⟩
theorem cmp_key {a b : PRec} : cmp a b = orI (cmpK a b) (cmpD a b) := by
 unfold cmp cmpK orI
 by_cases h : Nm.cmp a.owner b.owner = 0 <;> by_cases h2 : Nm.sgn a.type b.type = 0 <;> simp [h, h2]
theorem cmp_le_key {a b : PRec} (h : cmp a b <= 0) : cmpK a b <= 0 := by
 rw [cmp_key] at h; unfold orI at h; split at h <;> omega
def Inv (q : PRec -> Bool) : Prop := ∀ a b, cmp a b = 0 -> q a = q b
theorem Q_inv (o : List (List UInt8)) (t : Int) : Inv (Q o t) := fun a b h => by
 unfold Q Nm.same
 rw [cmp_type h, cmp_owner h]
theorem put_cons (x y : PRec) (L : List PRec) : put x (y :: L) = if cmp y x < 0 then y :: put x L else if cmp y x = 0 then (if x.ttl < y.ttl then { y with ttl := x.ttl } else y) :: L else x :: y :: L := rfl
theorem put_ahead {x : PRec} : ∀ {L : List PRec}, (∀ y ∈ L, 0 < cmp y x) -> put x L = x :: L
 | [], _ => rfl
 | y :: L, h => by
  have := h y List.mem_cons_self
  rw [put_cons, if_neg (by omega), if_neg (by omega)]
theorem put_filter {q : PRec -> Bool} (hq : Inv q) (x : PRec) : ∀ {L : List PRec}, Strict L -> (put x L).filter q = if q x then put x (L.filter q) else L.filter q
 | [], _ => by unfold put; by_cases h : q x = true <;> simp [h]
 | y :: L, hs => by
  have hs' := List.pairwise_cons.1 hs
  rw [put_cons]
  split
  ·rename_i hlt
   rw [List.filter_cons, List.filter_cons, put_filter hq x hs'.2]
   by_cases hx : q x = true <;> by_cases hy : q y = true <;> simp only [hx, hy, if_true, if_false, Bool.false_eq_true]
   rw [put_cons, if_pos hlt]
  ·split
   ·rename_i hnl h0
    have hyx := hq y x h0
    have hy' : ∀ z : PRec, (z = y \/ z = { y with ttl := x.ttl }) -> q z = q x := fun z hz => by
     rcases hz with rfl | rfl
     ·exact hyx
     ·rw [<- hyx]; exact hq _ _ (cmp_cm.refl y)
    by_cases hx : q x = true
    ·rw [List.filter_cons, hy' _ (by split <;> simp), if_pos hx, if_pos hx, List.filter_cons, hyx, if_pos hx, put_cons, if_neg hnl, if_pos h0]
    ·rw [List.filter_cons, hy' _ (by split <;> simp), if_neg hx, if_neg hx, List.filter_cons, hyx, if_neg hx]
   ·rename_i hnl h0
    by_cases hx : q x = true
    ·rw [List.filter_cons, if_pos hx, if_pos hx, put_ahead]
     intro z hz
     have hzm := (List.mem_filter.1 hz).1
     have ha := cmp_cm.anti y x
     rcases List.mem_cons.1 hzm with rfl | hzm
     ·omega
     ·have h1 := hs'.1 z hzm
      have h2 := cmp_cm.lt_le (a := x) (b := y) (c := z) (by omega) (by omega)
      have h3 := cmp_cm.anti x z
      omega
    ·rw [List.filter_cons, if_neg hx, if_neg hx]
theorem canon_filter {q : PRec -> Bool} (hq : Inv q) (l : List PRec) : canon (l.filter q) = (canon l).filter q := by
 suffices H : ∀ n (l : List PRec), l.length = n -> canon (l.filter q) = (canon l).filter q from H _ l rfl
 intro n
 induction n with
 | zero => intro l hl; obtain rfl := List.length_eq_zero_iff.1 hl; rfl
 | succ n ih =>
  intro l hl
  obtain ⟨l', x, rfl⟩ : ∃ l' x, l = l' ++ [x] := by
   rcases List.eq_nil_or_concat l with h | ⟨l', x, h⟩
   ·rw [h] at hl; simp at hl
   ·exact ⟨l', x, by rw [h, List.concat_eq_append]⟩
  have ih' := ih l' (by simpa using hl)
  rw [canon_eq (l' ++ [x]), refCanon_snoc, <- canon_eq, put_filter hq x (canon_of l').strict, List.filter_append]
  by_cases hx : q x = true
  ·rw [if_pos hx, <- ih', List.filter_cons_of_pos hx, List.filter_nil, canon_eq, refCanon_snoc, <- canon_eq]
  ·rw [if_neg hx, <- ih', List.filter_cons_of_neg hx, List.filter_nil, List.append_nil]
theorem run_split (x : PRec) : ∀ {l : List PRec}, Strict l -> (∀ y ∈ l, cmpK x y <= 0) -> l.filter (P x) = l.take (run x l) /\ ∀ z ∈ l.drop (run x l), cmpK x z < 0
 | [], _, _ => ⟨rfl, by simp⟩
 | y :: l, hs, hk => by
  have hs' := List.pairwise_cons.1 hs
  have ih := run_split x hs'.2 (fun z hz => hk z (List.mem_cons_of_mem _ hz))
  by_cases hp : P x y = true
  ·have hr : run x (y :: l) = run x l + 1 := by unfold run; rw [List.takeWhile_cons_of_pos hp]; rfl
   rw [hr, List.filter_cons_of_pos hp, List.take_succ_cons, List.drop_succ_cons, ih.1]
   exact ⟨rfl, ih.2⟩
  ·have hr : run x (y :: l) = 0 := by unfold run; rw [List.takeWhile_cons_of_neg hp]; rfl
   have hlt : ∀ z ∈ y :: l, cmpK x z < 0 := by
    have h0 : cmpK x y < 0 := by
     have := hk y List.mem_cons_self
     have hne : cmpK x y ≠ 0 := fun e => hp (cmpK_zero.1 e)
     omega
    intro z hz
    rcases List.mem_cons.1 hz with rfl | hz
    ·exact h0
    ·exact cmpK_cm.lt_le h0 (cmp_le_key (by have := hs'.1 z hz; omega))
   rw [hr]
   refine ⟨?_, by simpa using hlt⟩
   rw [List.take_zero, List.filter_eq_nil_iff]
   intro z hz hpz
   have := hlt z hz
   have := cmpK_zero.2 hpz
   omega
theorem run_all {x : PRec} : ∀ {g : List PRec}, (∀ z ∈ g, P x z = true) -> run x g = g.length
 | [], _ => rfl
 | z :: g, h => by
  have ih := run_all (x := x) (g := g) (fun y hy => h y (List.mem_cons_of_mem _ hy))
  unfold run at ih ⊢
  rw [List.takeWhile_cons_of_pos (h z List.mem_cons_self), List.length_cons, List.length_cons, ih]
theorem grp_law : ∀ (f : Nat) (L pre : List PRec), Strict (pre ++ L) -> (∀ a ∈ pre, ∀ b ∈ L, cmpK a b < 0) -> ∀ g ∈ grpF f L, ∃ x xs, g = x :: xs /\ (pre ++ L).filter (P x) = g /\ run x g = g.length /\ x ∈ L
 | 0, _, _, _, _, g, hg => by simp [grpF] at hg
 | f + 1, [], _, _, _, g, hg => by simp [grpF] at hg
 | f + 1, x :: l, pre, hs, hp, g, hg => by
  have hsl : Strict (x :: l) := (List.pairwise_append.1 hs).2.1
  have hk : ∀ y ∈ x :: l, cmpK x y <= 0 := fun y hy => by
   rcases List.mem_cons.1 hy with rfl | hy
   ·have := cmpK_cm.refl y; omega
   ·exact cmp_le_key (by have := (List.pairwise_cons.1 hsl).1 y hy; omega)
  obtain ⟨h1, h2⟩ := run_split x hsl hk
  obtain ⟨m, hm⟩ : ∃ m, run x (x :: l) = m := ⟨_, rfl⟩
  have hmp : 0 < m := by rw [<- hm]; exact run_pos x l
  rw [hm] at h1 h2
  have hg' : g = (x :: l).take m \/ g ∈ grpF f ((x :: l).drop m) := by
   have : grpF (f + 1) (x :: l) = (x :: l).take m :: grpF f ((x :: l).drop m) := by rw [<- hm]; rfl
   rw [this] at hg; exact List.mem_cons.1 hg
  rcases hg' with rfl | hg'
  ·obtain ⟨k, rfl⟩ : ∃ k, m = k + 1 := ⟨m - 1, by omega⟩
   refine ⟨x, l.take k, by rw [List.take_succ_cons], ?_, ?_, List.mem_cons_self⟩
   ·rw [List.filter_append, h1, (List.filter_eq_nil_iff).2, List.nil_append]
    intro a ha hpa
    have h3 := hp a ha x List.mem_cons_self
    have h4 := cmpK_zero.2 hpa
    have h5 := cmpK_cm.anti x a
    omega
   ·refine run_all fun z hz => ?_
    rw [<- h1] at hz
    exact (List.mem_filter.1 hz).2
  ·have hpl : pre ++ x :: l = (pre ++ (x :: l).take m) ++ (x :: l).drop m := by rw [List.append_assoc, List.take_append_drop]
   obtain ⟨y, ys, e1, e2, e3, e4⟩ := grp_law f ((x :: l).drop m) (pre ++ (x :: l).take m) (by rw [<- hpl]; exact hs) (fun a ha b hb => by
    rcases List.mem_append.1 ha with ha | ha
    ·exact hp a ha b (List.mem_of_mem_drop hb)
    ·have h3 := h2 b hb
     rw [<- h1] at ha
     have h4 := cmpK_zero.2 (List.mem_filter.1 ha).2
     have h5 := (cmpK_cm.left (a := x) (b := a) h4 b)
     have h6 := (cmpK_cm.left (a := x) (b := a) h4 b).1 (by omega)
     have h7 : cmpK a b ≠ 0 := fun e => by
      have h8 := cmpK_cm.zero h4 e
      omega
     omega) g hg'
   exact ⟨y, ys, e1, by rw [hpl]; exact e2, e3, List.mem_of_mem_drop e4⟩
theorem compactUpTo_mem {α : Type} [Inhabited α] [DecidableEq α] (d : Array α) : ∀ (m j : Nat), j < m -> d[j]! ∈ Lib.compactUpTo d m
 | 0, _, h => by omega
 | m + 1, j, h => by
  rw [Lib.compactUpTo_succ]
  by_cases hj : j < m
  ·exact List.mem_append_left _ (compactUpTo_mem d m j hj)
  ·obtain rfl : j = m := by omega
   by_cases hk : Lib.keeps d j = true
   ·rw [if_pos hk]; simp
   ·have h0 : ¬ (j = 0 \/ d[j]! ≠ d[j - 1]!) := by simpa [Lib.keeps] using hk
    have h1 : j ≠ 0 := fun e => h0 (.inl e)
    have h2 : d[j]! = d[j - 1]! := Classical.byContradiction fun e => h0 (.inr e)
    rw [h2]
    exact List.mem_append_left _ (compactUpTo_mem d j (j - 1) (by omega))
theorem compact_mem {zs : List Int} {z : Int} (h : z ∈ zs) : z ∈ Lib.compact zs := by
 obtain ⟨j, hj, rfl⟩ := List.mem_iff_getElem.1 h
 have := compactUpTo_mem zs.toArray zs.length j hj
 rw [getElem!_pos zs.toArray j (by simpa using hj)] at this
 simpa [Lib.compact] using this
theorem grp_found {l : List PRec} {g : List PRec} (h : g ∈ grpF (canon l).length (canon l)) : ∃ x xs, g = x :: xs /\ mine l x.owner x.type = g /\ run x g = g.length /\ x.type ∈ types l x.owner := by
 obtain ⟨x, xs, rfl, h2, h3, h4⟩ := grp_law _ (canon l) [] (canon_of l).strict (by simp) g h
 refine ⟨x, xs, rfl, ?_, h3, ?_⟩
 ·unfold mine
  rw [canon_filter (Q_inv _ _)]
  exact h2
 ·obtain ⟨y, hy, e, _⟩ := (canon_of l).some x h4
  unfold types
  refine compact_mem (List.mem_mergeSort.2 (List.mem_map.2 ⟨y, List.mem_filter.2 ⟨hy, ?_⟩, (cmp_type e).symm⟩))
  unfold Nm.same
  rw [cmp_owner e]; simp
end Rs
theorem grpE_flat {w : World} : ∀ (f : Nat) (l : List (El w)), l.length <= f -> (grpE f l).flatten = l
 | 0, l, h => by
  have : l = [] := List.length_eq_zero_iff.1 (by omega)
  subst this; rfl
 | f + 1, [], _ => rfl
 | f + 1, x :: l, h => by
  show (_ :: grpE f _).flatten = _
  have hp := run_posE x l
  rw [List.flatten_cons, grpE_flat f _ (by rw [List.length_drop, List.length_cons]; simp only [List.length_cons] at h; omega), List.take_append_drop]
theorem grp_flat {w : World} (l : List (El w)) : (grp l).flatten = l := grpE_flat _ _ (Nat.le_refl _)
end Go.Proofs.YtneghhbclefmoaaGreat
end
section
namespace Go.Proofs.YtneghhbclefmoaaGreat
open Go.RowKit Go.Shelf Go.Sort
set_option maxRecDepth 100000
def SetAt {w : World} (_gs : List (List (El w))) (ga : Addr) (w1 : World) (i : Nat) (g : List (El w)) : Prop :=
 ∃ x xs po no qo od cd, g = x :: xs /\ Rd (.slice po no qo) x.1.2.owner w /\ DatsRd (.slice od g.length cd) g w1 /\
  ∀ W', Below w1.heap.size w1 W' -> W'.cell? (ga.add (i * 4)) = some (.slice po no qo) /\ W'.cell? ⟨(ga.add (i * 4)).block, (ga.add (i * 4)).off + 1, none⟩ = some (.int .i64 x.1.2.type) /\
   W'.cell? ⟨(ga.add (i * 4)).block, (ga.add (i * 4)).off + 2, none⟩ = some (.int .u32 ((Rs.ttl x.1.2 (plE g) : Nat) : Int)) /\ W'.cell? ⟨(ga.add (i * 4)).block, (ga.add (i * 4)).off + 3, none⟩ = some (.slice od g.length cd)
theorem SetsRd.at {w : World} {o : Option Addr} {n cap : Nat} {gs : List (List (El w))} {w1 : World} (h : SetsRd (.slice o n cap) gs w1) (i : Nat) (hi : i < gs.length) : ∃ ga, o = some ga /\ SetAt gs ga w1 i gs[i] := by
 obtain ⟨css, hg, hl, hs⟩ := h
 have hi' : i < css.length := by omega
 obtain ⟨ga, rfl, _⟩ := hg.at (by decide) i hi'
 obtain ⟨x, xs, po, no, qo, od, cd, e1, e2, e3, e4⟩ := hs i hi' hi
 refine ⟨ga, rfl, x, xs, po, no, qo, od, cd, e1, e3, e4, fun W' hW => ?_⟩
 obtain ⟨a, ha, q0, q1⟩ := (hg.below hW).at (by decide) i hi'
 cases ha
 simp only [e2] at q0 q1
 exact ⟨q0, q1 1 (by decide) (by decide), q1 2 (by decide) (by decide), q1 3 (by decide) (by decide)⟩
theorem SetsRd.form {w : World} {v : Value} {gs : List (List (El w))} {w1 : World} (h : SetsRd v gs w1) : ∃ o cap, v = .slice o gs.length cap /\ gs.length <= cap /\ cap <= 9223372036854775807 := by
 obtain ⟨css, hg, hl, _⟩ := h
 obtain ⟨o, cap, h1, h2, h3⟩ := hg.form
 exact ⟨o, cap, by rw [h1, hl], by omega, h3⟩
def TrS (w : World) (e : Ending) (w' : World) : Prop := e = .returned (.bool true) /\ Below w.heap.size w w'
theorem DatsRd.off {w : World} {o : Option Addr} {n cap : Nat} {l : List (El w)} {W : World} (h : DatsRd (.slice o n cap) l W) (hn : 0 < n) {b : Nat} {c0 c1 c2 c3 : Value} {t : TypeId} (hb : Blk b #[c0, c1, c2, c3] t W) : ∀ a, o = some a -> a.block ≠ b := by
 rintro a rfl e
 obtain ⟨o', cap', e0, _, _, _, h5⟩ := h
 cases e0
 obtain ⟨a', ha, hc⟩ := h5 4 (by rw [flat_len encD 5 encD_len]; omega)
 cases ha
 have : (a.add 4) = ⟨b, a.off + 4, none⟩ := by subst e; rfl
 rw [this, hb.cell] at hc
 simp at hc
end Go.Proofs.YtneghhbclefmoaaGreat
end
