/- Sets of records: plain; rows of data in memory; a part of a row of records. -/
import Derived.Test.YtneghhbclefmoaaGreatKZnF
import Derived.Test.YtneghhbclefmoaaGreatKReg
section
namespace Go.Proofs.YtneghhbclefmoaaGreat
open Go.RowKit Go.Shelf Go.Sort
set_option maxRecDepth 100000
namespace Rs
open Rc
def P (x y : PRec) : Bool := (x.type == y.type) && Nm.same x.owner y.owner
def run (x : PRec) (l : List PRec) : Nat := (l.takeWhile (P x)).length
def ttl (x : PRec) (l : List PRec) : Nat := l.foldl (fun m r => min m r.ttl) x.ttl
structure PSet where
 owner : List (List UInt8)
 type : Int
 ttl : Nat
 data : List PRec
def mk (x : PRec) (l : List PRec) : PSet := ⟨x.owner, x.type, ttl x (l.take (run x l)), l.take (run x l)⟩
def sets : Nat -> List PRec -> List PSet
 | 0, _ => []
 | _, [] => []
 | f + 1, x :: l => mk x (x :: l) :: sets f ((x :: l).drop (run x (x :: l)))
theorem P_refl (x : PRec) : P x x = true := by simp [P, Nm.same]
theorem run_le (x : PRec) (l : List PRec) : run x l <= l.length := List.takeWhile_sublist _ |>.length_le
theorem run_pos (x : PRec) (l : List PRec) : 0 < run x (x :: l) := by unfold run; rw [List.takeWhile_cons_of_pos (P_refl x)]; simp
theorem run_of (x : PRec) : ∀ (l : List PRec) (n : Nat), n <= l.length -> (∀ j (h : j < l.length), j < n -> P x l[j] = true) -> (∀ h : n < l.length, P x l[n] = false) -> run x l = n
 | [], n, hn, _, _ => by simp at hn; subst hn; rfl
 | y :: l, 0, _, _, hs => by
  have := hs (by simp)
  unfold run; rw [List.takeWhile_cons_of_neg (by simpa using this)]; rfl
 | y :: l, n + 1, hn, h, hs => by
  have h0 := h 0 (by simp) (by omega)
  have ih := run_of x l n (by simpa using hn) (fun j hj hjn => h (j + 1) (by simpa using hj) (by omega)) (fun hj => hs (by simpa using hj))
  unfold run at ih ⊢
  rw [List.takeWhile_cons_of_pos (by simpa using h0), List.length_cons, ih]
theorem ttl_snoc (x y : PRec) (l : List PRec) : ttl x (l ++ [y]) = min (ttl x l) y.ttl := by simp [ttl]
end Rs
def encD {w : World} (x : El w) : List Value := (encE x).drop 2
theorem encD_len {w : World} (x : El w) : (encD x).length = 5 := by simp [encD, encE_len]
def DatsRd {w : World} (v : Value) (l : List (El w)) (W : World) : Prop :=
 ∃ o cap, v = .slice o l.length cap /\ l.length <= cap /\ cap <= maxLen /\ (o = none -> cap = 0) /\ ∀ j (h : j < (l.flatMap encD).length), ∃ a, o = some a /\ W.cell? (a.add j) = some (l.flatMap encD)[j]
theorem DatsRd.cells_kept {w : World} {v} {l : List (El w)} {W W' : World} (h : DatsRd v l W) (hk : CellsKept W W') : DatsRd v l W' := by
 obtain ⟨o, cap, h1, h2, h3, h4, h5⟩ := h
 refine ⟨o, cap, h1, h2, h3, h4, fun j hj => ?_⟩
 obtain ⟨a, ha, hc⟩ := h5 j hj
 exact ⟨a, ha, hk.cell hc⟩
theorem DatsRd.below {w : World} {v} {l : List (El w)} {W W' : World} (h : DatsRd v l W) (hb : Below W.heap.size W W') : DatsRd v l W' := h.cells_kept (CellsKept.below hb)
theorem DatsRd.nil {w : World} (W : World) : DatsRd (w := w) (.slice none 0 0) [] W := ⟨none, 0, rfl, by simp, by unfold maxLen; omega, fun _ => rfl, fun j h => by simp at h⟩
theorem DatsRd.form {w : World} {v} {l : List (El w)} {W : World} (h : DatsRd v l W) : ∃ o cap, v = .slice o l.length cap /\ l.length <= cap /\ cap <= maxLen := by
 obtain ⟨o, cap, h1, h2, h3, _⟩ := h; exact ⟨o, cap, h1, h2, h3⟩
theorem Row.dats {w W : World} {R : Nat -> Prop} {v : Value} {l : List (El w)} (h : Row R 88 5 v l.length (l.flatMap encD) W) : DatsRd v l W := by
 obtain ⟨⟨hl, ho⟩, _⟩ := h
 rcases ho with ⟨rfl, h0⟩ | ⟨g, cap, cur, rfl, _, hg, h1, h2, h3, h4⟩
 ·have : l = [] := List.length_eq_zero_iff.1 h0
  subst this
  exact DatsRd.nil W
 ·refine ⟨some ⟨g, 0, none⟩, cap, rfl, h1, h2, (fun h => by cases h), fun j hj => ⟨_, rfl, ?_⟩⟩
  have hadd : (⟨g, 0, none⟩ : Addr).add j = ⟨g, j, none⟩ := by unfold Addr.add; split <;> simp_all
  rw [hadd, cell_of_row W g j _ _ _ hg]
  have := congrArg (fun l => l[j]?) h4
  have hj' := hj
  rw [flat_len encD 5 encD_len] at hj'
  simp only [List.getElem?_take, hj', if_true] at this
  rw [<- List.getElem?_eq_getElem hj, <- this]
  simp
theorem info_dat : (Tryz.prog.info? 88).map (fun i => (i.zero, i.size, i.bytes)) = some (some (.agg #[.int .i64 0, .slice none 0 0, .slice none 0 0, .slice none 0 0, .slice none 0 0]), 5, 104) := by kernel_rfl
theorem encD_one {w : World} {l : List (El w)} : ∀ u ∈ l.flatMap encD, u.oneCell' = true := by
 intro u hu
 obtain ⟨x, _, hx⟩ := List.mem_flatMap.1 hu
 exact x.2.1.one u (List.mem_of_mem_drop hx)
section
variable {F : Fence} {n : Nat}
theorem append_dats {w0 : World} (R : Nat -> Prop) {ops : Array Oper} {rest : List Oper} {o : Oper} {a : Act} {w : World} {Q : Exit -> Act -> World -> Prop}
  (hg : o.guard = none) (s x : Operand) (t : TypeId) (ht : Tryz.prog.underlying t = some (.slice 88)) (hop : o.op = Op.call { callee := Callee.builtin Builtin.append, args := #[s, x], argTypes := #[t, t] })
  (v : Value) (k : Nat) (xs : List Value) (hs : a.eval s = v) (hrow : Row R 88 5 v k xs w) (u : Value) (l : List (El w0)) (hx : a.eval x = u) (hu : DatsRd u l w) (hb : k + l.length <= 100000) (hR : R w.heap.size)
  (hK : ∀ v' w', Row R 88 5 v' (k + l.length) (xs ++ l.flatMap encD) w' -> w.grownBy w' v.ownBlock -> wpListIn F n Tryz.prog ops Q rest (a.put o.dst v') w') :
  wpListIn F n Tryz.prog ops Q (o :: rest) a w := by
 obtain ⟨i0, hi, hz0, hz1, hz2⟩ := info_parts info_dat
 obtain ⟨oa, cap, rfl, h1, h2, h3, h4⟩ := hu
 cases oa with
 | none =>
  obtain rfl : cap = 0 := h3 rfl
  have hl : l = [] := List.length_eq_zero_iff.1 (by omega)
  subst hl
  refine wpListIn_plain hg fun K hK' => ?_
  have hrun := run_append_owned_none (P := Tryz.prog) (w := w) 0 t o.type 88 i0 5 ht hi v k _ hrow.1
  unfold Oper.wpIn
  refine ⟨?_, ?_⟩
  ·simp [Oper.about, hop, resolve, Target.leads, Sem.run_pure]
  ·rw [Oper.semAt_plain F _ _ (by rw [hop]; intro c hc'; cases hc')]
   simp only [List.length_nil] at hx
   simp [execOp, hop, resolve, invoke, builtin, hs, hx, hrun, Result.andThen]
   exact hK' _ _ (hK _ _ (by simpa using hrow) ⟨rfl, rfl, rfl, Nat.le_refl _, fun _ _ _ => rfl⟩)
 | some ad =>
  refine append_in R hg s x t hop 88 i0 _ 5 104 ht hi hz0 hz1 hz2 rfl (by decide) v k xs hs hrow ad l.length cap (l.flatMap encD) hx (flat_len encD 5 encD_len l) (fun j u hj => ?_) encD_one (by unfold maxLen; omega) (by omega) hR (fun v' w' hr hgr _ => hK v' w' hr hgr)
  obtain ⟨hjl, rfl⟩ := List.getElem?_eq_some_iff.1 hj
  obtain ⟨a', ha, hc⟩ := h4 j hjl
  cases ha; exact hc
end
theorem dats_one {w W : World} (x : El w) {cs : Array Value} (hc : encD x = cs.toList) : DatsRd (.slice (some ⟨W.heap.size, 0, none⟩) 1 1) [x] (W.alloc (.cells cs 88)) := by
 refine ⟨_, _, rfl, Nat.le_refl _, by unfold maxLen; omega, (fun h => by cases h), fun j hj => ⟨_, rfl, ?_⟩⟩
 have hadd : (⟨W.heap.size, 0, none⟩ : Addr).add j = ⟨W.heap.size, j, none⟩ := by unfold Addr.add; split <;> simp_all
 rw [hadd, cell_of_row (W.alloc (.cells cs 88)) W.heap.size j _ 88 (0, 0) (World.alloc_heap_new W _)]
 have he : [x].flatMap encD = cs.toList := by rw [<- hc]; simp
 simp only [he] at hj ⊢
 simp
set_option maxHeartbeats 1000000 in
theorem clipDat_any {w : World} (o : Option Addr) (cap : Nat) (l : List (El w)) (W : World) (hv : DatsRd (.slice o l.length cap) l W) (hn : l.length <= 10000) :
  Calls Tryz.prog 67 #[.slice o l.length cap] W fun e w' => e = .returned (.slice o l.length l.length) /\ w' = W := by
 have n1 : (l.length : Int) <= 10000 := by omega
 obtain ⟨_, _, e0, h1, h2, h3, h4⟩ := id hv
 cases e0
 unfold maxLen at h2
 clear h3 h4 hv
 go_enter Tryz.func67, Tryz.ntmps67
 go_wp2_with fail
 go_ret
 exact ⟨rfl, rfl⟩
theorem DatsRd.clip {w : World} {o : Option Addr} {cap : Nat} {l : List (El w)} {W : World} (hv : DatsRd (.slice o l.length cap) l W) : DatsRd (.slice o l.length l.length) l W := by
 obtain ⟨_, _, e0, h1, h2, h3, h4⟩ := hv
 cases e0
 exact ⟨o, l.length, rfl, Nat.le_refl _, by omega, fun h => by have := h3 h; omega, h4⟩
theorem DatsRd.set {w : World} {o : Option Addr} {n cap : Nat} {l : List (El w)} {W : World} (hv : DatsRd (.slice o n cap) l W) {b i : Nat} (hb : ∀ a, o = some a -> a.block ≠ b) (u : Value) : DatsRd (.slice o n cap) l (W.setCell ⟨b, i, none⟩ u) := by
 obtain ⟨o', cap', e0, h1, h2, h3, h4⟩ := hv
 refine ⟨o', cap', e0, h1, h2, h3, fun j hj => ?_⟩
 obtain ⟨a, ha, hc⟩ := h4 j hj
 have ho : o = some a := by cases e0; exact ha
 refine ⟨a, ha, ?_⟩
 rw [World.cell?_of_block (Below.heap_setCell _ _ _ _ (by rw [add_block]; exact hb a ho))]; exact hc
theorem flat_drop {α : Type} (enc : α -> List Value) (k : Nat) (hk : ∀ x, (enc x).length = k) (l : List α) (i : Nat) (hi : i <= l.length) : (l.drop i).flatMap enc = (l.flatMap enc).drop (i * k) := by
 have h1 : l.flatMap enc = (l.take i).flatMap enc ++ (l.drop i).flatMap enc := by rw [<- List.flatMap_append, List.take_append_drop]
 have h2 : ((l.take i).flatMap enc).length = i * k := by rw [flat_len enc k hk, List.length_take, Nat.min_eq_left hi]
 rw [h1, List.drop_append, h2, Nat.sub_self, List.drop_zero, List.drop_of_length_le (Nat.le_of_eq h2), List.nil_append]
theorem RecsRd.sub {w : World} {o : Option Addr} {cap : Nat} {l : List (El w)} {W : World} (h : RecsRd (.slice o l.length cap) (l.map (·.1)) W) (i j c : Nat) (hi : i <= j) (hj : j <= l.length) (hc : c <= cap - i) (hcl : j - i <= c) :
  RecsRd (.slice (o.map (·.add (i * 7))) (j - i) c) (((l.drop i).take (j - i)).map (·.1)) W := by
 obtain ⟨h0, o1, cap1, h1, h2, h3, h4, h5⟩ := h
 rw [List.length_map] at h1 h2
 cases h1
 have hl : ((l.drop i).take (j - i)).length = j - i := by simp; omega
 refine ⟨fun x hx => ?_, o.map (·.add (i * 7)), c, by rw [List.length_map, hl], by rw [List.length_map, hl]; omega, by omega, fun e => ?_, fun k hk => ?_⟩
 ·obtain ⟨y, hy, rfl⟩ := List.mem_map.1 hx
  exact h0 _ (List.mem_map_of_mem (List.mem_of_mem_drop (List.mem_of_mem_take hy)))
 ·have : o = none := by cases o with
   | none => rfl
   | some a => cases e
  have := h4 this; omega
 ·have hk' := hk
  rw [encP_map, flat_len encE 7 encE_len, hl] at hk'
  have hb : i * 7 + k < (encP (l.map (·.1))).length := by rw [encP_map, flat_len encE 7 encE_len]; omega
  obtain ⟨a, rfl, hcell⟩ := h5 (i * 7 + k) hb
  refine ⟨a.add (i * 7), rfl, ?_⟩
  rw [add_add', hcell, <- List.getElem?_eq_getElem hk, <- List.getElem?_eq_getElem hb, encP_map, encP_map]
  have e1 : ((l.drop i).take (j - i)).flatMap encE = ((l.drop i).flatMap encE).take ((j - i) * 7) := by
   have h1 : (l.drop i).flatMap encE = ((l.drop i).take (j - i)).flatMap encE ++ ((l.drop i).drop (j - i)).flatMap encE := by rw [<- List.flatMap_append, List.take_append_drop]
   have h2 : (((l.drop i).take (j - i)).flatMap encE).length = (j - i) * 7 := by rw [flat_len encE 7 encE_len, hl]
   rw [h1, <- h2, List.take_left]
  rw [e1, List.getElem?_take, if_pos hk', flat_drop encE 7 encE_len l i (by omega), List.getElem?_drop]
theorem RecsRd.tail {w : World} {o : Option Addr} {cap : Nat} {l : List (El w)} {W : World} (h : RecsRd (.slice o l.length cap) (l.map (·.1)) W) (i : Nat) (hi : i <= l.length) : RecsRd (.slice (o.map (·.add (i * 7))) (l.length - i) (cap - i)) ((l.drop i).map (·.1)) W := by
 have h' := h.sub i l.length (cap - i) hi (Nat.le_refl _) (Nat.le_refl _) (by obtain ⟨_, _, _, e, h1, _⟩ := h; rw [List.length_map] at e h1; cases e; omega)
 rwa [List.take_of_length_le (by simp)] at h'
theorem RecsRd.empty {w : World} (o : Option Addr) (W : World) : RecsRd (.slice o 0 0) (([] : List (El w)).map (·.1)) W := ⟨by simp, o, 0, rfl, by simp, by unfold maxLen; omega, fun _ => rfl, fun j h => by simp [encP] at h⟩
theorem RecsRd.tail0 {w : World} {o : Option Addr} {cap : Nat} {l : List (El w)} {W : World} (h : RecsRd (.slice o l.length cap) (l.map (·.1)) W) (i : Nat) (hi : i <= l.length) (hc : cap = i) : RecsRd (.slice o (l.length - i) 0) ((l.drop i).map (·.1)) W := by
 obtain ⟨_, _, _, e, h1, _⟩ := h
 rw [List.length_map] at e h1
 cases e
 rw [show l.length - i = 0 by omega, List.drop_of_length_le (by omega)]
 exact RecsRd.empty _ _
set_option maxHeartbeats 1000000 in
theorem setIs_any {w : World} (x : El w) (vo vd : Value) (t : Int) (tt : Nat) (n : List (List UInt8)) (wr : World) (hb : Below w.heap.size w wr) (hn : Rd vo n wr) (nn : NB n) :
  Calls Tryz.prog 110 #[.agg #[vo, .int .i64 t, .int .u32 (tt : Int), vd], .agg (encE x).toArray] wr (Gives (.bool ((t == x.1.2.type) && Nm.same n x.1.2.owner)) wr) := by
 obtain ⟨vx, ds, h0, ho, an, am, at', ar, h1, _⟩ := x.2.1
 have ex : encE x = [vx, .int .u32 (x.1.2.ttl : Int), .int .i64 x.1.2.type, an, am, at', ar] := by show x.1.1 = _; rw [h0, h1]
 rw [ex]
 have HO := Lib.hid (ho.below hb)
 have HN := Lib.hid hn
 have NO := Lib.hid x.2.2.owner
 clear ho hn hb ex h0 h1
 obtain ⟨bz, hz⟩ : ∃ bz, (t == x.1.2.type) = bz := ⟨_, rfl⟩
 rw [hz]
 have hb2 : ∀ o1 o2, Below wr.heap.size wr ((wr.alloc o1).alloc o2) := fun _ _ => ((Below.refl _ _).alloc (Nat.le_refl _) _).alloc (by simp) _
 have HB := Lib.hid hb2
 clear hb2
 cases bz with
 | true =>
  have h2 : decide (t = x.1.2.type) = true := by simpa using hz
  go_enter Tryz.func110, Tryz.ntmps110
  go_wp2_with fail
  refine (nSame_any _ _ _ _ _ (HN.out.below (HB.out _ _)) (HO.out.below (HB.out _ _)) nn NO.out).mono ?_
  rintro e w1 ⟨rfl, b1⟩
  have hb1 := (HB.out _ _).trans (b1.mono (by simp; omega))
  go_wp2_with fail
  go_ret
  exact ⟨by simp, hb1⟩
 | false =>
  have h2 : decide (t = x.1.2.type) = false := by simpa using hz
  go_enter Tryz.func110, Tryz.ntmps110
  go_wp2_with fail
  go_ret
  exact ⟨by simp, HB.out _ _⟩
end Go.Proofs.YtneghhbclefmoaaGreat
end
section
namespace Go.Proofs.YtneghhbclefmoaaGreat
open Go.RowKit Go.Shelf Go.Sort
set_option maxRecDepth 100000
def keepH (S : Nat -> Prop) (A B : World) : Prop := ∀ b, S b -> B.heap[b]? = A.heap[b]?
theorem keepH.refl (S : Nat -> Prop) (A : World) : keepH S A A := fun _ _ => rfl
theorem keepH.trans {S : Nat -> Prop} {A B C : World} (h : keepH S A B) (k : keepH S B C) : keepH S A C := fun p hp => (k p hp).trans (h p hp)
theorem keepH.put {S : Nat -> Prop} {L : Nat} (hL : ¬ S L) (A : World) (o : Obj) : keepH S A (A.putObj L o) := fun b hb => World.putObj_heap_other (fun e => hL (by rw [<- e]; exact hb))
theorem keepH.of_below {S : Nat -> Prop} {K0 : Nat} {A B : World} (h : Below K0 A B) (hS : ∀ b, S b -> b < K0) : keepH S A B := fun b hb => h.block b (hS _ hb)
theorem keepH.set {S : Nat -> Prop} {b o : Nat} (hb : ¬ S b) (A : World) (u : Value) : keepH S A (A.setCell ⟨b, o, none⟩ u) := fun c hc => Below.heap_setCell _ _ _ _ (fun e => hb (by have e : c = b := e; rw [<- e]; exact hc))
theorem keepH.cell {S : Nat -> Prop} {A B : World} (h : keepH S A B) {p : Addr} (hp : S p.block) : B.cell? p = A.cell? p := World.cell?_of_block (h _ hp)
section
variable {w : World}
structure SetsAt (Sk : Nat -> Prop) (bl : Nat) (l : List (El w)) (W : World) : Prop where
 bx : ∃ o c, Box bl 24 (.slice o l.length c) W /\ RecsRd (.slice o l.length c) (l.map (·.1)) W /\ ∀ a, o = some a -> 0 < l.length -> Sk a.block /\ a.block ≠ bl
 below : Below w.heap.size w W
def setKp (w : World) (Sk : Nat -> Prop) (A B : World) : Prop := keepH Sk A B /\ (Below w.heap.size w A -> Below w.heap.size w B)
theorem setKp.trans {Sk : Nat -> Prop} {A B C : World} (h : setKp w Sk A B) (k : setKp w Sk B C) : setKp w Sk A C := ⟨h.1.trans k.1, fun x => k.2 (h.2 x)⟩
theorem setKp.refl (Sk : Nat -> Prop) (A : World) : setKp w Sk A A := ⟨keepH.refl _ _, id⟩
theorem setKp.put {Sk : Nat -> Prop} {L : Nat} (hL : ¬ Sk L) (hw : w.heap.size <= L) (A : World) (o : Obj) : setKp w Sk A (A.putObj L o) :=
 ⟨keepH.put hL A o, fun h => h.grown (grownBy_putObj' A L o) h.size (fun k e => by cases e; exact hw)⟩
theorem SetsAt.kp {Sk : Nat -> Prop} {bl : Nat} {l : List (El w)} {A B : World} (h : SetsAt Sk bl l A) (hk : setKp w Sk A B) (hbl : Sk bl) : SetsAt Sk bl l B := by
 obtain ⟨⟨o, c, h1, h2, h3⟩, h4⟩ := h
 have hb := hk.2 h4
 refine ⟨⟨o, c, (hk.1 bl hbl).trans h1, ⟨fun x hx => ?_, ?_⟩, h3⟩, hb⟩
 ·obtain ⟨y, _, rfl⟩ := List.mem_map.1 hx
  exact y.2.1.below hb
 ·obtain ⟨_, o', c', e1, e2, e3, e4, e5⟩ := h2
  refine ⟨o', c', e1, e2, e3, e4, fun j hj => ?_⟩
  obtain ⟨a, ha, hc⟩ := e5 j hj
  have : o = some a := by rw [List.length_map] at e1; cases e1; exact ha
  exact ⟨a, ha, (hk.1.cell (by rw [add_block]; exact (h3 a this (by have := hj; rw [encP_map, flat_len encE 7 encE_len] at this; omega)).1)).trans hc⟩
theorem SetsAt.on {Sk : Nat -> Prop} {bl : Nat} {l : List (El w)} {A B : World} (h : SetsAt Sk bl l A) (hb : Below A.heap.size A B) : SetsAt Sk bl l B := by
 obtain ⟨⟨o, c, h1, h2, h3⟩, h4⟩ := h
 exact ⟨⟨o, c, h1.below hb, h2.kept hb, h3⟩, below5 h4 hb⟩
def setSt (bl : Nat) (A B : World) : Prop := A.grownBy B (some bl) /\ ∃ c t f, A.heap[bl]? = some (.cells c t f)
theorem setSt.others {bl : Nat} {A B : World} (h : setSt bl A B) : KeepsOthers A B := KeepsOthers.of_grownBy h.1 fun j o hj ho => by
 cases hj
 obtain ⟨c, t, f, hc⟩ := h.2
 rw [hc] at ho; cases ho; rfl
def setY (bl : Nat) (k : List (El w)) (A : World) (v : Array Value) (k' : List (El w)) : Prop :=
 ∃ x xs n, k = x :: xs /\ n = Rs.run x.1.2 (plE k) /\ n <= k.length /\ k' = k.drop n /\ ∃ vo od cd, v = #[.agg #[vo, .int .i64 x.1.2.type, .int .u32 ((Rs.ttl x.1.2 (plE (k.take n)) : Nat) : Int), .slice od n cd]] /\ Rd vo x.1.2.owner w /\ DatsRd (.slice od n cd) (k.take n) A /\ ∀ a, od = some a -> bl < a.block /\ ∃ cur f, A.heap[a.block]? = some (.cells cur 88 f)
def lenAt (bl : Nat) (W : World) : Nat := match W.cell? ⟨bl, 0, none⟩ with
 | some (.slice _ n _) => n
 | _ => 0
theorem Blk.setAt {b cs t W} (h : Blk b cs t W) (i : Nat) (u : Value) : Blk b (cs.setIfInBounds i u) t (W.setCell ⟨b, i, none⟩ u) := by
 unfold Blk at *; simp [World.setCell, Array.getElem?_modify, h]
def Bx4 (b : Nat) (s0 s1 s2 s3 : Value) (W : World) : Prop := W.cell? ⟨b, 0, none⟩ = some s0 /\ W.cell? ⟨b, 1, none⟩ = some s1 /\ W.cell? ⟨b, 2, none⟩ = some s2 /\ W.cell? ⟨b, 3, none⟩ = some s3
def Bxa7 (e : Addr) (c0 c1 c2 c3 c4 c5 c6 : Value) (W : World) : Prop :=
 W.cell? e = some c0 /\ W.cell? ⟨e.block, e.off + 1, none⟩ = some c1 /\ W.cell? ⟨e.block, e.off + 2, none⟩ = some c2 /\ W.cell? ⟨e.block, e.off + 3, none⟩ = some c3 /\ W.cell? ⟨e.block, e.off + 4, none⟩ = some c4 /\ W.cell? ⟨e.block, e.off + 5, none⟩ = some c5 /\ W.cell? ⟨e.block, e.off + 6, none⟩ = some c6
theorem Bx4.of {b s0 s1 s2 s3 t W} (h : Blk b #[s0, s1, s2, s3] t W) : Bx4 b s0 s1 s2 s3 W := ⟨h.cell 0, h.cell 1, h.cell 2, h.cell 3⟩
def Rg (bl : Nat) (vl : Value) (b : Nat) (s0 s1 s2 s3 : Value) (e : Addr) (c0 c1 c2 c3 c4 c5 c6 : Value) (W : World) : Prop := W.cell? ⟨bl, 0, none⟩ = some vl /\ Bx4 b s0 s1 s2 s3 W /\ Bxa7 e c0 c1 c2 c3 c4 c5 c6 W
theorem Rg.kept {bl vl b s0 s1 s2 s3 e c0 c1 c2 c3 c4 c5 c6} {W W' : World} (h : Rg bl vl b s0 s1 s2 s3 e c0 c1 c2 c3 c4 c5 c6 W) (k : CellsKept W W') : Rg bl vl b s0 s1 s2 s3 e c0 c1 c2 c3 c4 c5 c6 W' := by
 obtain ⟨h0, ⟨a0, a1, a2, a3⟩, b0, b1, b2, b3, b4, b5, b6⟩ := h
 exact ⟨k.cell h0, ⟨k.cell a0, k.cell a1, k.cell a2, k.cell a3⟩, k.cell b0, k.cell b1, k.cell b2, k.cell b3, k.cell b4, k.cell b5, k.cell b6⟩
structure SgI (wr : World) (b : Nat) (x : El w) (vo : Value) (k : List (El w)) (n : Nat) (W : World) : Prop where
 bs : ∃ od cd, Blk b #[vo, .int .i64 x.1.2.type, .int .u32 ((Rs.ttl x.1.2 (plE (k.take n)) : Nat) : Int), .slice od n cd] 116 W /\ Row (fun g => wr.heap.size <= g /\ g ≠ b) 88 5 (.slice od n cd) n ((k.take n).flatMap encD) W
 below : Below wr.heap.size wr W
 all : ∀ j (h : j < k.length), j < n -> Rs.P x.1.2 k[j].1.2 = true
 le : n <= k.length
 lb : wr.heap.size <= b
theorem SgI.on {wo : World} {b : Nat} {x : El w} {vo : Value} {k : List (El w)} {n : Nat} {A W : World} (h : SgI wo b x vo k n A) (hb : Below A.heap.size A W) : SgI wo b x vo k n W := by
 obtain ⟨od, cd, h1, h2⟩ := h.bs
 exact ⟨⟨od, cd, h1.below hb, h2.below hb⟩, below5 h.below hb, h.all, h.le, h.lb⟩
theorem SetsAt.next {Sk : Nat -> Prop} {bl : Nat} {k : List (El w)} {W : World} (h : SetsAt Sk bl k W) (hbl : w.heap.size <= bl) {o : Option Addr} {c : Nat} (hb : Box bl 24 (.slice o k.length c) W) (n : Nat) (hn : n <= k.length) (o' : Option Addr) (c' : Nat)
  (h' : RecsRd (.slice o' (k.length - n) c') ((k.drop n).map (·.1)) W) (ho : ∀ a', o' = some a' -> ∃ a, o = some a /\ a'.block = a.block) : SetsAt Sk bl (k.drop n) (W.setCell ⟨bl, 0, none⟩ (.slice o' (k.length - n) c')) := by
 obtain ⟨⟨o1, c1, h1, _, h3⟩, h4⟩ := h
 have e : (Value.slice o1 k.length c1) = .slice o k.length c := by
  have := h1.cell; rw [hb.cell] at this; exact (Option.some.inj this).symm
 cases e
 have hbW : Below w.heap.size w (W.setCell ⟨bl, 0, none⟩ (.slice o' (k.length - n) c')) := h4.setCell (p := ⟨bl, 0, none⟩) hbl _
 have hoo : ∀ a', o' = some a' -> 0 < (k.drop n).length -> Sk a'.block /\ a'.block ≠ bl := fun a' ha hp => by
  obtain ⟨a, ha1, ha2⟩ := ho a' ha
  rw [List.length_drop] at hp
  rw [ha2]; exact h3 a ha1 (by omega)
 refine ⟨⟨o', c', by rw [List.length_drop]; exact h1.set _, ⟨fun x hx => ?_, ?_⟩, hoo⟩, hbW⟩
 ·obtain ⟨y, _, rfl⟩ := List.mem_map.1 hx
  exact y.2.1.below hbW
 ·obtain ⟨_, o2, c2, e1, e2, e3, e4, e5⟩ := h'
  rw [List.length_map, List.length_drop] at e1
  refine ⟨o2, c2, by rw [List.length_map, List.length_drop]; exact e1, e2, e3, e4, fun j hj => ?_⟩
  obtain ⟨a2, ha, hc⟩ := e5 j hj
  have : o' = some a2 := by cases e1; exact ha
  exact ⟨a2, ha, (World.cell?_of_block (Below.heap_setCell _ _ _ _ (by rw [add_block]; exact (hoo a2 this (by have := hj; rw [encP_map, flat_len encE 7 encE_len] at this; omega)).2))).trans hc⟩
theorem plE_get (l : List (El w)) (j : Nat) (hj : j < (plE l).length) : (plE l)[j] = (l[j]'(by simpa [plE] using hj)).1.2 := by simp [plE]
theorem El.ownerRd (x : El w) {c0 : Value} {cs : List Value} (h : encE x = c0 :: cs) : Rd c0 x.1.2.owner w := by
 obtain ⟨vo, ds, h0, ho, _⟩ := x.2.1
 have : encE x = vo :: .int .u32 (x.1.2.ttl : Int) :: ds := h0
 rw [this] at h; cases h; exact ho
set_option maxHeartbeats 4000000 in
theorem sets1_iter (Sk : Nat -> Prop) (bl : Nat) (hbl : w.heap.size <= bl) (hsk : Sk bl) (l : List (El w)) (hn : l.length <= 1000) :
  Iter Tryz.prog 145 #[.pointer (some ⟨bl, 0, none⟩)] (SetsAt Sk bl l) (setSt bl) (setKp w Sk) (setY (w := w) bl) l (fun k => k = []) := by
 intro lp J Jx W hpre hJs hJxs hY h0
 refine callsIn_of_wp Tryz.func145 rfl trivial ?_ rfl
 simp only [Tryz.ntmps145, List.size_toArray, List.length_cons, List.length_nil, Nat.reduceAdd, Nat.reduceSub, Array.replicate_succ, Array.replicate_zero, List.push_toArray, List.append_toArray, List.nil_append, List.cons_append]
 gi_wp2
 gi_loopw [4] (fun _ wr => ∃ k : List (El w), k.length <= 1000 /\ J k wr /\ SetsAt Sk bl k wr) (fun _ wr => lenAt bl wr)
 case atStart => exact ⟨l, hn, h0, hpre⟩
 case round =>
  obtain ⟨k, hk, hJ, hA⟩ := hrel
  obtain ⟨o, c, hbx, hrd, hoo⟩ := hA.bx
  have hc0 := hbx.cell
  have hk' : (k.length : Int) <= 1000 := by omega
  rcases k with _ | ⟨x, xs⟩
  ·gi_wp2
   go_end0
   exact ⟨⟨_, rfl⟩, .inl ⟨_, rfl, hJ⟩⟩
  ·obtain ⟨p0, n0, q0, p1, n1, q1, p2, n2, q2, p3, n3, q3, p4, n4, q4, ex⟩ := x.cells
   obtain ⟨m, hm⟩ : ∃ m, (x :: xs).length = m := ⟨_, rfl⟩
   have hm0 : 0 < m := by rw [<- hm]; simp
   have hmz : (0 : Int) < (m : Int) := by omega
   have HEL := Lib.hid hrd.el
   obtain ⟨a, rfl, e0, e1, e2, _⟩ := HEL.out _ (Below.refl _ _) 0 (by simp) _ _ _ _ _ _ _ ex
   rw [hm] at hc0 hk hk' hbx hrd
   have hoa := hoo a rfl (by simp)
   have e0' : wr.cell? a = some (.slice p0 n0 q0) := e0
   have e1' : wr.cell? ⟨a.block, a.off + 1, none⟩ = some (.int .u32 (x.1.2.ttl : Int)) := e1
   have e2' : wr.cell? ⟨a.block, a.off + 2, none⟩ = some (.int .i64 x.1.2.type) := e2
   have HX := Lib.hid ex
   have HA := Lib.hid hA
   have HM := Lib.hid hm
   clear e0 e1 e2 hoo hbx hrd ex hA hm
   gi_wp2_with fail
   refine drawnH [0, 1, 2, 3, 4, 5, 6, 7, 8, 9, 10, 11, 12, 13, 14] (fun w' => w'.cell? ⟨bl, 0, none⟩ = some (.slice (some a) m c) /\ w'.cell? a = some (.slice p0 n0 q0) /\ w'.cell? ⟨a.block, a.off + 1, none⟩ = some (.int .u32 (x.1.2.ttl : Int)) /\ w'.cell? ⟨a.block, a.off + 2, none⟩ = some (.int .i64 x.1.2.type)) 16 rfl (by kernel_rfl) ?_
   intro w' hw'
   have hS : w'.cell? ⟨bl, 0, none⟩ = some (.slice (some a) m c) /\ w'.cell? a = some (.slice p0 n0 q0) /\ w'.cell? ⟨a.block, a.off + 1, none⟩ = some (.int .u32 (x.1.2.ttl : Int)) /\ w'.cell? ⟨a.block, a.off + 2, none⟩ = some (.int .i64 x.1.2.type) := by subst hw'; exact ⟨hc0, e0', e1', e2'⟩
   have hb : Below wr.heap.size wr w' := by subst hw'; exact (Below.refl _ _).drew
   have HC0 := Lib.hid hc0
   clear hw' hc0 e0' e1' e2'
   refine tH 0 ?qv0 hS (fun w1 ⟨f0, f1, f2, f3⟩ => ?qy0) ?_
   case qy0 => go_simp; try rfl
   refine tH 1 ?qv1 hS (fun w1 ⟨f0, f1, f2, f3⟩ => ?qy1) ?_
   case qy1 => go_simp; try rfl
   refine tH 2 ?qv2 hS (fun w1 ⟨f0, f1, f2, f3⟩ => ?qy2) ?_
   case qy2 => go_simp; try rfl
   refine tH 4 ?qv4 hS (fun w1 ⟨f0, f1, f2, f3⟩ => ?qy4) ?_
   case qy4 => go_simp; try rfl
   refine tH 5 ?qv5 hS (fun w1 ⟨f0, f1, f2, f3⟩ => ?qy5) ?_
   case qy5 => go_simp; try rfl
   refine tH 6 ?qv6 hS (fun w1 ⟨f0, f1, f2, f3⟩ => ?qy6) ?_
   case qy6 => go_simp; try rfl
   refine tH 7 ?qv7 hS (fun w1 ⟨f0, f1, f2, f3⟩ => ?qy7) ?_
   case qy7 => go_simp; try rfl
   refine tH 9 ?qv9 hS (fun w1 ⟨f0, f1, f2, f3⟩ => ?qy9) ?_
   case qy9 => go_simp; try rfl
   refine tH 10 ?qv10 hS (fun w1 ⟨f0, f1, f2, f3⟩ => ?qy10) ?_
   case qy10 => go_simp; try rfl
   refine tH 11 ?qv11 hS (fun w1 ⟨f0, f1, f2, f3⟩ => ?qy11) ?_
   case qy11 => go_simp; try rfl
   refine tH 3 ?qv3 hS (fun w1 ⟨f0, f1, f2, f3⟩ => ?qy3) ?_
   case qy3 => go_simp; try rfl
   refine tH 8 ?qv8 hS (fun w1 ⟨f0, f1, f2, f3⟩ => ?qy8) ?_
   case qy8 => go_simp; try rfl
   refine tH 12 ?qv12 hS (fun w1 ⟨f0, f1, f2, f3⟩ => ?qy12) ?_
   case qy12 => go_simp; try rfl
   refine tH 13 ?qv13 hS (fun w1 ⟨f0, f1, f2, f3⟩ => ?qy13) ?_
   case qy13 => go_simp; try rfl
   simp only [Act.put, List.setIfInBounds_toArray, List.set_cons_succ, List.set_cons_zero]
   refine oneH 14 (by rfl) (by kernel_rfl) (fun K hK => ?_)
   gi_wp2_with fail
   obtain ⟨W1, hW1⟩ : ∃ W1, w'.alloc (.cells #[.slice none 0 0, .int .i64 0, .int .u32 0, .slice none 0 0] 116) = W1 := ⟨_, rfl⟩
   have hb1 : Below wr.heap.size wr W1 := by subst hW1; exact hb.alloc hb.size _
   have hblk : Blk w'.heap.size #[.slice none 0 0, .int .i64 0, .int .u32 0, .slice none 0 0] 116 W1 := by subst hW1; exact Blk.new w' _ _
   have hS1 : W1.cell? ⟨bl, 0, none⟩ = some (.slice (some a) m c) /\ W1.cell? a = some (.slice p0 n0 q0) /\ W1.cell? ⟨a.block, a.off + 1, none⟩ = some (.int .u32 (x.1.2.ttl : Int)) /\ W1.cell? ⟨a.block, a.off + 2, none⟩ = some (.int .i64 x.1.2.type) := by
    have k := CellsKept.alloc w' (.cells #[.slice none 0 0, .int .i64 0, .int .u32 0, .slice none 0 0] 116)
    rw [hW1] at k
    exact ⟨k.cell hS.1, k.cell hS.2.1, k.cell hS.2.2.1, k.cell hS.2.2.2⟩
   rw [hW1]
   refine hK _ _ (fun _ => hS1) ?_
   clear hK K
   have hc0 := hblk.cell 0
   have hc1 := hblk.cell 1
   have hc2 := hblk.cell 2
   have hc3 := hblk.cell 3
   have hz0 := hblk.frozen 0
   have hz1 := hblk.frozen 1
   have hz2 := hblk.frozen 2
   have hz3 := hblk.frozen 3
   simp at hc0 hc1 hc2 hc3
   have hbb : wr.heap.size <= w'.heap.size := hb.size
   obtain ⟨b, hbe⟩ : ∃ b, w'.heap.size = b := ⟨_, rfl⟩
   rw [hbe] at hblk hc0 hc1 hc2 hc3 hz0 hz1 hz2 hz3 hbb ⊢
   clear hS hS1 hW1 hb hbe
   refine oneH 15 (by rfl) (by kernel_rfl) (fun K hK => ?_)
   gi_wp2_with fail
   obtain ⟨W2, hW2⟩ : ∃ W2, (((W1.setCell ⟨b, 0, none⟩ (.slice p0 n0 q0)).setCell ⟨b, 1, none⟩ (.int .i64 x.1.2.type)).setCell ⟨b, 2, none⟩ (.int .u32 (x.1.2.ttl : Int))).setCell ⟨b, 3, none⟩ (.slice none 0 0) = W2 := ⟨_, rfl⟩
   have hb2 : Below wr.heap.size wr W2 := by
    subst hW2
    exact (((hb1.setCell (p := ⟨b, 0, none⟩) hbb _).setCell (p := ⟨b, 1, none⟩) hbb _).setCell (p := ⟨b, 2, none⟩) hbb _).setCell (p := ⟨b, 3, none⟩) hbb _
   have hblk2 : Blk b #[.slice p0 n0 q0, .int .i64 x.1.2.type, .int .u32 (x.1.2.ttl : Int), .slice none 0 0] 116 W2 := by
    subst hW2
    exact (((hblk.setAt 0 _).setAt 1 _).setAt 2 _).setAt 3 _
   rw [hW2]
   refine hK _ _ (fun h => absurd h (by decide)) ?_
   clear hK K hW2 hc0 hc1 hc2 hc3 hz0 hz1 hz2 hz3 hblk hb1
   refine doneH (by kernel_rfl) ?_
   have HSG : Hid (SgI wr b x (.slice p0 n0 q0) (x :: xs) 0 W2) := ⟨⟨none, 0, hblk2, Row.nil _ _ _ _⟩, hb2, fun j _ h => by omega, Nat.zero_le _, hbb⟩
   clear hb2 hblk2
   have HBX : Hid (∀ W, Below wr.heap.size wr W -> W.cell? ⟨bl, 0, none⟩ = some (.slice (some a) m c)) := fun W h => (h.cell (cell_lt HC0.out)).trans HC0.out
   obtain ⟨wo, rfl⟩ : ∃ wo, wo = wr := ⟨_, rfl⟩
   gi_wp2
   gi_loopw [4] (fun v4 W => ∃ n : Nat, v4 = .int .i64 n /\ SgI wo b x (.slice p0 n0 q0) (x :: xs) n W) (fun v4 _ => m - (intOf v4).toNat)
   case atStart => exact ⟨0, rfl, HSG.out⟩
   case round =>
    obtain ⟨n, rfl, hI⟩ := hrel
    obtain ⟨od, cd, hbs, hrow⟩ := hI.bs
    by_cases hlt : n < m
    ·have hnz : (n : Int) < (m : Int) := by omega
     have hnk : n < (x :: xs).length := by rw [HM.out]; exact hlt
     obtain ⟨y, hy⟩ : ∃ y, (x :: xs)[n] = y := ⟨_, rfl⟩
     obtain ⟨r0, k0, t0, r1, k1, t1, r2, k2, t2, r3, k3, t3, r4, k4, t4, ey⟩ := y.cells
     obtain ⟨e, he⟩ : ∃ e, a.add (n * 7) = e := ⟨_, rfl⟩
     have HY7 : Hid (∀ W', Below wo.heap.size wo W' -> Bxa7 e (.slice r0 k0 t0) (.int .u32 (y.1.2.ttl : Int)) (.int .i64 y.1.2.type) (.slice r1 k1 t1) (.slice r2 k2 t2) (.slice r3 k3 t3) (.slice r4 k4 t4) W') := fun W' hW' => by
      obtain ⟨a', ha', y0, y1, y2, y3, y4, y5, y6⟩ := HEL.out _ hW' n hnk _ _ _ _ _ _ _ (by rw [hy]; exact ey)
      cases ha'
      rw [he] at y0 y1 y2 y3 y4 y5 y6
      exact ⟨y0, y1, y2, y3, y4, y5, y6⟩
     obtain ⟨tt, htt⟩ : ∃ tt, Rs.ttl x.1.2 (plE ((x :: xs).take n)) = tt := ⟨_, rfl⟩
     rw [htt] at hbs
     have HRow := Lib.hid hrow
     have HBS := Lib.hid hbs
     have HI := Lib.hid hI
     have HY := Lib.hid hy
     have HEY := Lib.hid ey
     have HTT := Lib.hid htt
     have hRg : (Rg bl (.slice (some a) m c) b (.slice p0 n0 q0) (.int .i64 x.1.2.type) (.int .u32 (tt : Int)) (.slice od n cd) e (.slice r0 k0 t0) (.int .u32 (y.1.2.ttl : Int)) (.int .i64 y.1.2.type) (.slice r1 k1 t1) (.slice r2 k2 t2) (.slice r3 k3 t3) (.slice r4 k4 t4)) wr := ⟨HBX.out _ hI.below, Bx4.of hbs, HY7.out _ hI.below⟩
     clear hrow hbs hI hy ey htt
     gi_wp2_with fail
     refine drawnH [0, 1, 2, 3, 4, 5, 6, 7, 8, 9, 10, 11] (Rg bl (.slice (some a) m c) b (.slice p0 n0 q0) (.int .i64 x.1.2.type) (.int .u32 (tt : Int)) (.slice od n cd) e (.slice r0 k0 t0) (.int .u32 (y.1.2.ttl : Int)) (.int .i64 y.1.2.type) (.slice r1 k1 t1) (.slice r2 k2 t2) (.slice r3 k3 t3) (.slice r4 k4 t4)) 12 rfl (by kernel_rfl) ?_
     intro w3 hw3
     have hS : (Rg bl (.slice (some a) m c) b (.slice p0 n0 q0) (.int .i64 x.1.2.type) (.int .u32 (tt : Int)) (.slice od n cd) e (.slice r0 k0 t0) (.int .u32 (y.1.2.ttl : Int)) (.int .i64 y.1.2.type) (.slice r1 k1 t1) (.slice r2 k2 t2) (.slice r3 k3 t3) (.slice r4 k4 t4)) w3 := by subst hw3; exact hRg
     have hb3 : Below wr.heap.size wr w3 := by subst hw3; exact (Below.refl _ _).drew
     clear hw3 hRg
     have hnd : decide (n < m) = true := by simp [hlt]
     refine tH 0 ?qav0 hS (fun w1 ⟨g0, ⟨g1, g2, g3, g4⟩, g5, g6, g7, g8, g9, g10, g11⟩ => ?qay0) ?_
     case qay0 => go_simp; try rfl
     refine tH 1 ?qav1 hS (fun w1 ⟨g0, ⟨g1, g2, g3, g4⟩, g5, g6, g7, g8, g9, g10, g11⟩ => ?qay1) ?_
     case qay1 => go_simp; try rfl
     refine tH 2 ?qav2 hS (fun w1 ⟨g0, ⟨g1, g2, g3, g4⟩, g5, g6, g7, g8, g9, g10, g11⟩ => ?qay2) ?_
     case qay2 => go_simp; try rfl
     refine tH 3 ?qav3 hS (fun w1 ⟨g0, ⟨g1, g2, g3, g4⟩, g5, g6, g7, g8, g9, g10, g11⟩ => ?qay3) ?_
     case qay3 => go_simp; try rfl
     refine tH 4 ?qav4 hS (fun w1 ⟨g0, ⟨g1, g2, g3, g4⟩, g5, g6, g7, g8, g9, g10, g11⟩ => ?qay4) ?_
     case qay4 => go_simp; try rfl
     refine tH 7 ?qav7 hS (fun w1 ⟨g0, ⟨g1, g2, g3, g4⟩, g5, g6, g7, g8, g9, g10, g11⟩ => ?qay7) ?_
     case qay7 => go_simp; try rfl
     refine tH 6 ?qav6 hS (fun w1 ⟨g0, ⟨g1, g2, g3, g4⟩, g5, g6, g7, g8, g9, g10, g11⟩ => ?qay6) ?_
     case qay6 => go_simp; try rfl
     refine tH 8 ?qav8 hS (fun w1 ⟨g0, ⟨g1, g2, g3, g4⟩, g5, g6, g7, g8, g9, g10, g11⟩ => ?qay8) ?_
     case qay8 => go_simp; try rfl
     refine tH 5 ?qav5 hS (fun w1 ⟨g0, ⟨g1, g2, g3, g4⟩, g5, g6, g7, g8, g9, g10, g11⟩ => ?qay5) ?_
     case qay5 => go_simp; try rfl
     refine tH 9 ?qav9 hS (fun w1 ⟨g0, ⟨g1, g2, g3, g4⟩, g5, g6, g7, g8, g9, g10, g11⟩ => ?qay9) ?_
     case qay9 => go_simp; try rfl
     simp only [Act.put, List.setIfInBounds_toArray, List.set_cons_succ, List.set_cons_zero]
     obtain ⟨bz, hbz⟩ : ∃ bz, Rs.P x.1.2 y.1.2 = bz := ⟨_, rfl⟩
     have HPZ := Lib.hid hbz
     have hbw3 : Below w.heap.size w w3 := below5 (below5 HA.out.below HI.out.below) hb3
     have HIS := Lib.hid (setIs_any y (.slice p0 n0 q0) (.slice od n cd) x.1.2.type tt x.1.2.owner w3 hbw3 ((x.ownerRd HX.out).below hbw3) x.2.2.owner)
     rw [HEY.out, show ((x.1.2.type == y.1.2.type) && Nm.same x.1.2.owner y.1.2.owner) = bz from hbz] at HIS
     clear hbz hbw3
     refine oneH 10 (by rfl) (by kernel_rfl) (fun K hK => ?_)
     gi_wp2_with (gi_at_call 110; refine (callsIn_wide.2 HIS.out).mono ?_; rintro e5 w5 ⟨rfl, b5⟩)
     have hS5 := hS.kept (CellsKept.below b5)
     have hb5 := below5 hb3 b5
     clear hS hb3 b5 HIS
     refine hK _ _ (fun _ => hS5) ?_
     clear hK K
     have hS := hS5
     clear hS5
     refine tH 11 ?qav11 hS (fun w1 ⟨g0, ⟨g1, g2, g3, g4⟩, g5, g6, g7, g8, g9, g10, g11⟩ => ?qay11) ?_
     case qay11 => go_simp; try rfl
     simp only [Act.put, List.setIfInBounds_toArray, List.set_cons_succ, List.set_cons_zero]
     refine doneH (by kernel_rfl) ?_
     cases bz with
     | true =>
      gi_wp2_with fail
      refine drawnH [0, 1, 2, 3, 4, 5, 6, 7, 8] (Rg bl (.slice (some a) m c) b (.slice p0 n0 q0) (.int .i64 x.1.2.type) (.int .u32 (tt : Int)) (.slice od n cd) e (.slice r0 k0 t0) (.int .u32 (y.1.2.ttl : Int)) (.int .i64 y.1.2.type) (.slice r1 k1 t1) (.slice r2 k2 t2) (.slice r3 k3 t3) (.slice r4 k4 t4)) 10 rfl (by kernel_rfl) ?_
      intro w6 hw6
      have hS6 : (Rg bl (.slice (some a) m c) b (.slice p0 n0 q0) (.int .i64 x.1.2.type) (.int .u32 (tt : Int)) (.slice od n cd) e (.slice r0 k0 t0) (.int .u32 (y.1.2.ttl : Int)) (.int .i64 y.1.2.type) (.slice r1 k1 t1) (.slice r2 k2 t2) (.slice r3 k3 t3) (.slice r4 k4 t4)) w6 := by subst hw6; exact hS
      have hb6 : Below wr.heap.size wr w6 := by subst hw6; exact hb5.drew
      clear hw6 hS hb5
      have hS := hS6
      clear hS6
      refine tH 0 ?qbv0 hS (fun w1 ⟨g0, ⟨g1, g2, g3, g4⟩, g5, g6, g7, g8, g9, g10, g11⟩ => ?qby0) ?_
      case qby0 => go_simp; try rfl
      refine tH 3 ?qbv3 hS (fun w1 ⟨g0, ⟨g1, g2, g3, g4⟩, g5, g6, g7, g8, g9, g10, g11⟩ => ?qby3) ?_
      case qby3 => go_simp; try rfl
      refine tH 1 ?qbv1 hS (fun w1 ⟨g0, ⟨g1, g2, g3, g4⟩, g5, g6, g7, g8, g9, g10, g11⟩ => ?qby1) ?_
      case qby1 => go_simp; try rfl
      refine tH 2 ?qbv2 hS (fun w1 ⟨g0, ⟨g1, g2, g3, g4⟩, g5, g6, g7, g8, g9, g10, g11⟩ => ?qby2) ?_
      case qby2 => go_simp; try rfl
      refine tH 4 ?qbv4 hS (fun w1 ⟨g0, ⟨g1, g2, g3, g4⟩, g5, g6, g7, g8, g9, g10, g11⟩ => ?qby4) ?_
      case qby4 => go_simp; try rfl
      refine tH 5 ?qbv5 hS (fun w1 ⟨g0, ⟨g1, g2, g3, g4⟩, g5, g6, g7, g8, g9, g10, g11⟩ => ?qby5) ?_
      case qby5 => go_simp; try rfl
      refine tH 6 ?qbv6 hS (fun w1 ⟨g0, ⟨g1, g2, g3, g4⟩, g5, g6, g7, g8, g9, g10, g11⟩ => ?qby6) ?_
      case qby6 => go_simp; try rfl
      refine tH 7 ?qbv7 hS (fun w1 ⟨g0, ⟨g1, g2, g3, g4⟩, g5, g6, g7, g8, g9, g10, g11⟩ => ?qby7) ?_
      case qby7 => go_simp; try rfl
      refine tH 8 ?qbv8 hS (fun w1 ⟨g0, ⟨g1, g2, g3, g4⟩, g5, g6, g7, g8, g9, g10, g11⟩ => ?qby8) ?_
      case qby8 => go_simp; try rfl
      simp only [Act.put, List.setIfInBounds_toArray, List.set_cons_succ, List.set_cons_zero]
      obtain ⟨_, ⟨_, _, d2, _⟩, _⟩ := id hS
      have f2 := ((HBS.out.below hb6).frozen 2)
      refine oneH 9 (by rfl) (by kernel_rfl) (fun K hK => ?_)
      gi_wp2_with fail
      have hmn : (min (tt : Int) (y.1.2.ttl : Int)) = ((min tt y.1.2.ttl : Nat) : Int) := by omega
      rw [hmn]
      obtain ⟨W7, hW7⟩ : ∃ W7, w6.setCell ⟨b, 2, none⟩ (.int .u32 ((min tt y.1.2.ttl : Nat) : Int)) = W7 := ⟨_, rfl⟩
      rw [hW7]
      have hbo6 : Below wo.heap.size wo w6 := HI.out.below.trans (hb6.mono HI.out.below.size)
      have hbo7 : Below wo.heap.size wo W7 := by subst hW7; exact hbo6.setCell (p := ⟨b, 2, none⟩) hbb _
      have hbl7 : Blk b #[.slice p0 n0 q0, .int .i64 x.1.2.type, .int .u32 ((min tt y.1.2.ttl : Nat) : Int), .slice od n cd] 116 W7 := by subst hW7; exact (HBS.out.below hb6).setAt 2 _
      have hrow7 : Row (fun g => wo.heap.size <= g /\ g ≠ b) 88 5 (.slice od n cd) n (((x :: xs).take n).flatMap encD) W7 := by subst hW7; exact (HRow.out.below hb6).setOther (fun h => h.2 rfl) _
      refine hK _ _ (fun h => absurd h (by decide)) ?_
      clear hK K d2 f2 hS hb6 hbo6 hW7 hmn
      refine doneH (by kernel_rfl) ?_
      have hS : (Rg bl (.slice (some a) m c) b (.slice p0 n0 q0) (.int .i64 x.1.2.type) (.int .u32 ((min tt y.1.2.ttl : Nat) : Int)) (.slice od n cd) e (.slice r0 k0 t0) (.int .u32 (y.1.2.ttl : Int)) (.int .i64 y.1.2.type) (.slice r1 k1 t1) (.slice r2 k2 t2) (.slice r3 k3 t3) (.slice r4 k4 t4)) W7 := ⟨HBX.out _ hbo7, Bx4.of hbl7, HY7.out _ hbo7⟩
      gi_wp2_with fail
      refine drawnH [0, 1, 2, 3, 4, 5, 6, 7, 8, 9] (Rg bl (.slice (some a) m c) b (.slice p0 n0 q0) (.int .i64 x.1.2.type) (.int .u32 ((min tt y.1.2.ttl : Nat) : Int)) (.slice od n cd) e (.slice r0 k0 t0) (.int .u32 (y.1.2.ttl : Int)) (.int .i64 y.1.2.type) (.slice r1 k1 t1) (.slice r2 k2 t2) (.slice r3 k3 t3) (.slice r4 k4 t4)) 11 rfl (by kernel_rfl) ?_
      intro w8 hw8
      have hS8 : (Rg bl (.slice (some a) m c) b (.slice p0 n0 q0) (.int .i64 x.1.2.type) (.int .u32 ((min tt y.1.2.ttl : Nat) : Int)) (.slice od n cd) e (.slice r0 k0 t0) (.int .u32 (y.1.2.ttl : Int)) (.int .i64 y.1.2.type) (.slice r1 k1 t1) (.slice r2 k2 t2) (.slice r3 k3 t3) (.slice r4 k4 t4)) w8 := by subst hw8; exact hS
      have hbo8 : Below wo.heap.size wo w8 := by subst hw8; exact hbo7.drew
      have hbl8 : Blk b #[.slice p0 n0 q0, .int .i64 x.1.2.type, .int .u32 ((min tt y.1.2.ttl : Nat) : Int), .slice od n cd] 116 w8 := by subst hw8; exact hbl7
      have hrow8 : Row (fun g => wo.heap.size <= g /\ g ≠ b) 88 5 (.slice od n cd) n (((x :: xs).take n).flatMap encD) w8 := by subst hw8; exact hrow7.drew
      clear hw8 hS hbo7 hbl7 hrow7
      have hS := hS8
      clear hS8
      refine tH 0 ?qcv0 hS (fun w1 ⟨g0, ⟨g1, g2, g3, g4⟩, g5, g6, g7, g8, g9, g10, g11⟩ => ?qcy0) ?_
      case qcy0 => go_simp; try rfl
      refine tH 3 ?qcv3 hS (fun w1 ⟨g0, ⟨g1, g2, g3, g4⟩, g5, g6, g7, g8, g9, g10, g11⟩ => ?qcy3) ?_
      case qcy3 => go_simp; try rfl
      refine tH 2 ?qcv2 hS (fun w1 ⟨g0, ⟨g1, g2, g3, g4⟩, g5, g6, g7, g8, g9, g10, g11⟩ => ?qcy2) ?_
      case qcy2 => go_simp; try rfl
      refine tH 4 ?qcv4 hS (fun w1 ⟨g0, ⟨g1, g2, g3, g4⟩, g5, g6, g7, g8, g9, g10, g11⟩ => ?qcy4) ?_
      case qcy4 => go_simp; try rfl
      refine tH 5 ?qcv5 hS (fun w1 ⟨g0, ⟨g1, g2, g3, g4⟩, g5, g6, g7, g8, g9, g10, g11⟩ => ?qcy5) ?_
      case qcy5 => go_simp; try rfl
      refine tH 1 ?qcv1 hS (fun w1 ⟨g0, ⟨g1, g2, g3, g4⟩, g5, g6, g7, g8, g9, g10, g11⟩ => ?qcy1) ?_
      case qcy1 => go_simp; try rfl
      refine tH 6 ?qcv6 hS (fun w1 ⟨g0, ⟨g1, g2, g3, g4⟩, g5, g6, g7, g8, g9, g10, g11⟩ => ?qcy6) ?_
      case qcy6 => go_simp; try rfl
      simp only [Act.put, List.setIfInBounds_toArray, List.set_cons_succ, List.set_cons_zero]
      refine oneH 7 (by rfl) (by kernel_rfl) (fun K hK => ?_)
      gi_wp2_with fail
      obtain ⟨W9, hW9⟩ : ∃ W9, w8.alloc (.cells #[.int .i64 y.1.2.type, .slice r1 k1 t1, .slice r2 k2 t2, .slice r3 k3 t3, .slice r4 k4 t4] 88) = W9 := ⟨_, rfl⟩
      rw [hW9]
      have hS9 : (Rg bl (.slice (some a) m c) b (.slice p0 n0 q0) (.int .i64 x.1.2.type) (.int .u32 ((min tt y.1.2.ttl : Nat) : Int)) (.slice od n cd) e (.slice r0 k0 t0) (.int .u32 (y.1.2.ttl : Int)) (.int .i64 y.1.2.type) (.slice r1 k1 t1) (.slice r2 k2 t2) (.slice r3 k3 t3) (.slice r4 k4 t4)) W9 := by subst hW9; exact hS.kept (CellsKept.alloc _ _)
      have hbo9 : Below wo.heap.size wo W9 := by subst hW9; exact hbo8.alloc hbo8.size _
      have hbl9 : Blk b #[.slice p0 n0 q0, .int .i64 x.1.2.type, .int .u32 ((min tt y.1.2.ttl : Nat) : Int), .slice od n cd] 116 W9 := by subst hW9; exact hbl8.alloc _
      have hrow9 : Row (fun g => wo.heap.size <= g /\ g ≠ b) 88 5 (.slice od n cd) n (((x :: xs).take n).flatMap encD) W9 := by subst hW9; exact hrow8.alloc _
      have hone : DatsRd (.slice (some ⟨w8.heap.size, 0, none⟩) 1 1) [y] W9 := by subst hW9; exact dats_one y (by unfold encD; rw [HEY.out]; rfl)
      have hz9 : wo.heap.size <= W9.heap.size /\ W9.heap.size ≠ b := by have := hbo9.size; have := hbl9.lt; omega
      refine hK _ _ (fun _ => hS9) ?_
      clear hK K hW9 hS hbo8 hbl8 hrow8
      have hS := hS9
      clear hS9
      have HN1 := Lib.hid (show n + [y].length <= 100000 by simp; omega)
      refine oneH 8 (by rfl) (by kernel_rfl) (fun K hK => ?_)
      gi_wp2_with (gi_at_builtin; refine append_dats (fun g => wo.heap.size <= g /\ g ≠ b) rfl _ _ _ Tryz.underlying49 rfl _ n (((x :: xs).take n).flatMap encD) (by rfl) hrow9 _ [y] (by rfl) hone HN1.out hz9 ?_; intro v10 w10 hrow10 hgr10)
      have hbo10 : Below wo.heap.size wo w10 := hbo9.grown hgr10 hbo9.size (fun g hg => (hrow9.2 g hg).1)
      have hbl10 : Blk b #[.slice p0 n0 q0, .int .i64 x.1.2.type, .int .u32 ((min tt y.1.2.ttl : Nat) : Int), .slice od n cd] 116 w10 := (hgr10.block b hbl9.lt (fun e => (hrow9.2 b e.symm).2 rfl)).trans hbl9
      have hS10 : (Rg bl (.slice (some a) m c) b (.slice p0 n0 q0) (.int .i64 x.1.2.type) (.int .u32 ((min tt y.1.2.ttl : Nat) : Int)) (.slice od n cd) e (.slice r0 k0 t0) (.int .u32 (y.1.2.ttl : Int)) (.int .i64 y.1.2.type) (.slice r1 k1 t1) (.slice r2 k2 t2) (.slice r3 k3 t3) (.slice r4 k4 t4)) w10 := ⟨HBX.out _ hbo10, Bx4.of hbl10, HY7.out _ hbo10⟩
      refine hK _ _ (fun _ => hS10) ?_
      clear hK K hS hbo9 hbl9 hrow9 hone hz9 hgr10
      have hS := hS10
      clear hS10
      obtain ⟨o11, c11, rfl⟩ := hrow10.form
      refine tH 9 ?qcv9 hS (fun w1 ⟨g0, ⟨g1, g2, g3, g4⟩, g5, g6, g7, g8, g9, g10, g11⟩ => ?qcy9) ?_
      case qcy9 => go_simp; try rfl
      simp only [Act.put, List.setIfInBounds_toArray, List.set_cons_succ, List.set_cons_zero]
      obtain ⟨_, ⟨_, _, _, d3⟩, _⟩ := id hS
      have f3 := hbl10.frozen 3
      refine oneH 10 (by rfl) (by kernel_rfl) (fun K hK => ?_)
      gi_wp2_with fail
      obtain ⟨W12, hW12⟩ : ∃ W12, w10.setCell ⟨b, 3, none⟩ (.slice o11 (n + [y].length) c11) = W12 := ⟨_, rfl⟩
      have hbo12 : Below wo.heap.size wo W12 := by subst hW12; exact hbo10.setCell (p := ⟨b, 3, none⟩) hbb _
      have hbl12 : Blk b #[.slice p0 n0 q0, .int .i64 x.1.2.type, .int .u32 ((min tt y.1.2.ttl : Nat) : Int), .slice o11 (n + [y].length) c11] 116 W12 := by subst hW12; exact hbl10.setAt 3 _
      have hrow12 := show Row (fun g => wo.heap.size <= g /\ g ≠ b) 88 5 (.slice o11 (n + [y].length) c11) (n + [y].length) (((x :: xs).take n).flatMap encD ++ [y].flatMap encD) W12 by subst hW12; exact hrow10.setOther (fun h => h.2 rfl) _
      first | rw [hW12] | (simp only [List.length_cons, List.length_nil, Nat.zero_add] at hW12; rw [hW12])
      refine hK _ _ (fun h => absurd h (by decide)) ?_
      clear hK K hW12 d3 f3 hS hbo10 hbl10 hrow10
      refine doneH (by kernel_rfl) ?_
      gi_wp2_with fail
      have htk : (x :: xs).take (n + 1) = (x :: xs).take n ++ [y] := by rw [List.take_succ_eq_append_getElem hnk, HY.out]
      refine ⟨⟨n + 1, by go_num, ⟨o11, c11, ?_, ?_⟩, hbo12, fun j hj hjn => ?_, hnk, hbb⟩, by simp [intOf]; omega⟩
      ·rw [htk, show plE ((x :: xs).take n ++ [y]) = plE ((x :: xs).take n) ++ [y.1.2] by simp [plE], Rs.ttl_snoc, HTT.out]
       exact hbl12
      ·rw [htk, List.flatMap_append]
       exact hrow12
      ·rcases Nat.lt_succ_iff_lt_or_eq.1 hjn with h | h
       ·exact HI.out.all j hj h
       ·subst h; rw [HY.out]; exact HPZ.out
     | false =>
      have HE : Hid (SgI wo b x (.slice p0 n0 q0) (x :: xs) n w5) := Lib.hid (SgI.on HI.out hb5)
      have HRUN : Hid (Rs.run x.1.2 (plE (x :: xs)) = n) := Rs.run_of _ _ _ (by simpa [plE] using Nat.le_of_lt hnk) (fun j hj hjn => by
       have hj' : j < (x :: xs).length := by simpa [plE] using hj
       rw [plE_get]
       exact HI.out.all j hj' hjn) (fun h => by
       rw [plE_get, HY.out]
       exact HPZ.out)
      have HNPOS : Hid (0 < n) := by show 0 < n; rw [<- HRUN.out]; exact Rs.run_pos _ _
      clear hS hb5 HRow HBS HTT HY7 hlt hnz hnd HI he
      obtain ⟨od, cd, hbs, hrow⟩ := HE.out.bs
      have h3c : w5.cell? ⟨b, 3, none⟩ = some _ := hbs.cell 3
      have h3f := hbs.frozen 3
      have hbo := HE.out.below
      obtain ⟨tt, htt⟩ : ∃ tt, Rs.ttl x.1.2 (plE ((x :: xs).take n)) = tt := ⟨_, rfl⟩
      rw [htt] at hbs
      have hnl : ((x :: xs).take n).length = n := by rw [List.length_take]; have := HE.out.le; omega
      have hdr : DatsRd (.slice od n cd) ((x :: xs).take n) w5 := by
       have h2 : Row (fun g => wo.heap.size <= g /\ g ≠ b) 88 5 (.slice od n cd) ((x :: xs).take n).length (((x :: xs).take n).flatMap encD) w5 := by rw [hnl]; exact hrow
       exact Row.dats h2
      have hodb : ∀ a', od = some a' -> a'.block ≠ b := fun a' ha => by
       subst ha; exact (hrow.2 a'.block rfl).2
      have hcl := clipDat_any od cd ((x :: xs).take n) w5 (by rw [hnl]; exact hdr) (by rw [hnl]; have := HE.out.le; rw [HM.out] at this; omega)
      rw [hnl] at hcl
      have HCL := Lib.hid hcl
      have hdc := DatsRd.clip (o := od) (cap := cd) (l := (x :: xs).take n) (by rw [hnl]; exact hdr)
      rw [hnl] at hdc
      obtain ⟨Wz, hWz⟩ : ∃ Wz, w5.setCell ⟨b, 3, none⟩ (.slice od n n) = Wz := ⟨_, rfl⟩
      have hbz : Below wo.heap.size wo Wz := by subst hWz; exact hbo.setCell (p := ⟨b, 3, none⟩) hbb _
      have hblz : Blk b #[.slice p0 n0 q0, .int .i64 x.1.2.type, .int .u32 (tt : Int), .slice od n n] 116 Wz := by subst hWz; exact hbs.setAt 3 _
      have hdz : DatsRd (.slice od n n) ((x :: xs).take n) Wz := by subst hWz; exact hdc.set hodb _
      have htyp : ∀ a', od = some a' -> ∃ cur f, Wz.heap[a'.block]? = some (.cells cur 88 f) := fun a' ha => by
       subst ha
       obtain ⟨⟨_, ho⟩, _⟩ := id hrow
       rcases ho with ⟨h0, _⟩ | ⟨g, cap, cur, h0, _, hg, _⟩
       ·cases h0
       ·cases h0
        refine ⟨cur, (0, 0), ?_⟩
        subst hWz
        exact (Below.heap_setCell _ _ _ _ (hodb _ rfl)).trans hg
      have HTYP := Lib.hid htyp
      clear htyp
      have i0 : Wz.cell? ⟨b, 0, none⟩ = some _ := hblz.cell 0
      have i1 : Wz.cell? ⟨b, 1, none⟩ = some _ := hblz.cell 1
      have i2 : Wz.cell? ⟨b, 2, none⟩ = some _ := hblz.cell 2
      have i3 : Wz.cell? ⟨b, 3, none⟩ = some _ := hblz.cell 3
      have hJz : J (x :: xs) Wz := hJs _ _ _ hJ ⟨⟨hbz.os, hbz.tape, hbz.output, hbz.size, fun k hk _ => hbz.block k hk⟩, by
       obtain ⟨_, _, hbx, _⟩ := HA.out.bx
       exact ⟨_, _, _, hbx⟩⟩
      obtain ⟨fn, tmps, assign, body, hy, hR⟩ := hY (x :: xs) ((x :: xs).drop n) _ Wz hJz ⟨x, xs, n, rfl, HRUN.out.symm, HE.out.le, rfl, .slice p0 n0 q0, od, n, rfl, x.ownerRd HX.out, hdz, fun a' ha => ⟨by
       subst ha
       have h1 := (hrow.2 a'.block rfl).1
       obtain ⟨_, _, hbx, _⟩ := HA.out.bx
       have h2 := hbx.lt
       omega, HTYP.out a' ha⟩⟩
      rw [htt] at hy
      have HAZ := Lib.hid (HA.out.on hbz)
      have HNLE := Lib.hid (show n <= m by have := HE.out.le; rw [HM.out] at this; exact this)
      have hnm : (n : Int) <= (m : Int) := by have := HNLE.out; omega
      have HBZ := Lib.hid hbz
      have HCZ := Lib.hid HBX.out
      clear hbs hrow hbo htt hdr hodb hcl hdc hbz hblz hdz hJz HBX HEL
      gi_wp2_with fail
      refine (callsIn_wide.2 HCL.out).mono ?_
      rintro ez Wy ⟨rfl, rfl⟩
      gi_wp2_with fail
      refine hR.mono ?_
      rintro ew W9 (⟨rfl, hJ9, hk9⟩ | ⟨rfl, hJx9⟩)
      ·have HA9 := Lib.hid (HAZ.out.kp hk9 hsk)
       obtain ⟨o9, c9, hbx9, hrd9, hoo9⟩ := HA9.out.bx
       rw [HM.out] at hbx9 hrd9
       have hq : Wz.cell? ⟨bl, 0, none⟩ = some (.slice (some a) m c) := HCZ.out _ HBZ.out
       have hq9 : W9.cell? ⟨bl, 0, none⟩ = some (.slice o9 m c9) := hbx9.cell
       have he9 : (Value.slice (some a) m c) = .slice o9 m c9 := by
        have := (hk9.1.cell (p := ⟨bl, 0, none⟩) hsk)
        rw [hq, hq9] at this
        exact (Option.some.inj this).symm
       cases he9
       have hf9 := hbx9.frozen
       have hbnd : m <= c /\ c <= 9223372036854775807 := by
        obtain ⟨_, o', c', e', h1, h2, _⟩ := hrd9
        rw [List.length_map, HM.out] at e' h1
        cases e'
        unfold maxLen at h2
        exact ⟨h1, by omega⟩
       obtain ⟨hbd1, hbd2⟩ := hbnd
       have hrq : RecsRd (.slice (if c = n then some a else some (a.add (n * 7))) ((x :: xs).length - n) (c - n)) (((x :: xs).drop n).map (·.1)) W9 := by
        have hrd9' : RecsRd (.slice (some a) (x :: xs).length c) ((x :: xs).map (·.1)) W9 := by rw [HM.out]; exact hrd9
        split
        ·rename_i hcn
         rw [show c - n = 0 by omega]
         exact RecsRd.tail0 hrd9' n (by rw [HM.out]; exact HNLE.out) hcn
        ·exact RecsRd.tail (o := some a) hrd9' n (by rw [HM.out]; exact HNLE.out)
       have HN1 := Lib.hid (SetsAt.next HA9.out hbl (show Box bl 24 (.slice (some a) (x :: xs).length c) W9 by rw [HM.out]; exact hbx9) n (by rw [HM.out]; exact HNLE.out) _ (c - n) hrq (fun a' h => ⟨a, rfl, by split at h <;> cases h <;> first | rfl | exact add_block a _⟩))
       rw [HM.out] at HN1
       have HST := Lib.hid (fun v : Value => hJs _ W9 (W9.setCell ⟨bl, 0, none⟩ v) hJ9 ⟨grownBy_setCell' W9 bl v, ⟨_, _, _, hbx9⟩⟩)
       have HSE := Lib.hid (fun u : Value => (hbx9.set u).cell)
       clear hrd9 hoo9 hbx9 hJ9 hk9 hq hrq
       gi_wp2_with fail
       go_roundw
       case rel => exact ⟨(x :: xs).drop n, by simp only [List.length_drop, HM.out]; omega, HST.out _, HN1.out⟩
       case measure =>
        have g := HSE.out (.slice (if c = n then some a else some (a.add (n * 7))) (m - n) (c - n))
        have g0 := HC0.out
        have g1 := HNPOS.out
        simp only [lenAt, g, g0]
        omega
      ·gi_wp2
       refine bodyPost_ret (results_none rfl _ _ _) rfl ?_
       exact ⟨⟨_, rfl⟩, .inr hJx9⟩
    ·have hnm' : n = m := by have := hI.le; rw [HM.out] at this; omega
     have HNM := Lib.hid hnm'
     clear hnm'
     have HI := Lib.hid hI
     have HBS := Lib.hid hbs
     have hcb := HBX.out _ hI.below
     have hnz : ¬ ((n : Int) < (m : Int)) := by omega
     clear hI hbs hrow
     gi_wp2_with fail
     refine drawnH [0, 1, 2, 3, 4, 5, 6, 7, 8, 9, 10, 11] (fun W => W.cell? ⟨bl, 0, none⟩ = some (.slice (some a) m c)) 12 rfl (by kernel_rfl) ?_
     intro w3 hw3
     have hS : w3.cell? ⟨bl, 0, none⟩ = some (.slice (some a) m c) := by subst hw3; exact hcb
     have hb3 : Below wr.heap.size wr w3 := by subst hw3; exact (Below.refl _ _).drew
     clear hw3 hcb
     have hnd : decide (n < m) = false := by simp; omega
     refine tH 0 ?qdv0 hS (fun w1 g0 => ?qdy0) ?_
     case qdy0 => go_simp; try rfl
     refine tH 1 ?qdv1 hS (fun w1 g0 => ?qdy1) ?_
     case qdy1 => go_simp; try rfl
     refine tH 2 ?qdv2 hS (fun w1 g0 => ?qdy2) ?_
     case qdy2 => go_simp; try rfl
     refine tH 3 ?qdv3 hS (fun w1 g0 => ?qdy3) ?_
     case qdy3 => go_simp; try rfl
     refine tH 4 ?qdv4 hS (fun w1 g0 => ?qdy4) ?_
     case qdy4 => go_simp; try rfl
     refine tU 7 hS ?_
     refine tU 6 hS ?_
     refine tU 8 hS ?_
     refine tU 5 hS ?_
     refine tU 9 hS ?_
     refine tU 10 hS ?_
     refine tH 11 ?qdv11 hS (fun w1 g0 => ?qdy11) ?_
     case qdy11 => go_simp; try rfl
     simp only [Act.put, List.setIfInBounds_toArray, List.set_cons_succ, List.set_cons_zero]
     refine doneH (by kernel_rfl) ?_
     have HE : Hid (SgI wo b x (.slice p0 n0 q0) (x :: xs) n w3) := Lib.hid (SgI.on HI.out hb3)
     have HRUN : Hid (Rs.run x.1.2 (plE (x :: xs)) = n) := Rs.run_of _ _ _ (by have := HNM.out; have := HM.out; simp [plE] at this ⊢; omega) (fun j hj hjn => by
      have hj' : j < (x :: xs).length := by simpa [plE] using hj
      rw [plE_get]
      exact HI.out.all j hj' hjn) (fun h => by
      exfalso
      have h1 := HNM.out; have h2 := HM.out
      simp [plE] at h h2; omega)
     have HNPOS : Hid (0 < n) := by show 0 < n; rw [<- HRUN.out]; exact Rs.run_pos _ _
     clear hS hb3 hlt hnz hnd HI HBS HNM
     obtain ⟨od, cd, hbs, hrow⟩ := HE.out.bs
     have h3c : w3.cell? ⟨b, 3, none⟩ = some _ := hbs.cell 3
     have h3f := hbs.frozen 3
     have hbo := HE.out.below
     obtain ⟨tt, htt⟩ : ∃ tt, Rs.ttl x.1.2 (plE ((x :: xs).take n)) = tt := ⟨_, rfl⟩
     rw [htt] at hbs
     have hnl : ((x :: xs).take n).length = n := by rw [List.length_take]; have := HE.out.le; omega
     have hdr : DatsRd (.slice od n cd) ((x :: xs).take n) w3 := by
      have h2 : Row (fun g => wo.heap.size <= g /\ g ≠ b) 88 5 (.slice od n cd) ((x :: xs).take n).length (((x :: xs).take n).flatMap encD) w3 := by rw [hnl]; exact hrow
      exact Row.dats h2
     have hodb : ∀ a', od = some a' -> a'.block ≠ b := fun a' ha => by
      subst ha; exact (hrow.2 a'.block rfl).2
     have hcl := clipDat_any od cd ((x :: xs).take n) w3 (by rw [hnl]; exact hdr) (by rw [hnl]; have := HE.out.le; rw [HM.out] at this; omega)
     rw [hnl] at hcl
     have HCL := Lib.hid hcl
     have hdc := DatsRd.clip (o := od) (cap := cd) (l := (x :: xs).take n) (by rw [hnl]; exact hdr)
     rw [hnl] at hdc
     obtain ⟨Wz, hWz⟩ : ∃ Wz, w3.setCell ⟨b, 3, none⟩ (.slice od n n) = Wz := ⟨_, rfl⟩
     have hbz : Below wo.heap.size wo Wz := by subst hWz; exact hbo.setCell (p := ⟨b, 3, none⟩) hbb _
     have hblz : Blk b #[.slice p0 n0 q0, .int .i64 x.1.2.type, .int .u32 (tt : Int), .slice od n n] 116 Wz := by subst hWz; exact hbs.setAt 3 _
     have hdz : DatsRd (.slice od n n) ((x :: xs).take n) Wz := by subst hWz; exact hdc.set hodb _
     have htyp : ∀ a', od = some a' -> ∃ cur f, Wz.heap[a'.block]? = some (.cells cur 88 f) := fun a' ha => by
      subst ha
      obtain ⟨⟨_, ho⟩, _⟩ := id hrow
      rcases ho with ⟨h0, _⟩ | ⟨g, cap, cur, h0, _, hg, _⟩
      ·cases h0
      ·cases h0
       refine ⟨cur, (0, 0), ?_⟩
       subst hWz
       exact (Below.heap_setCell _ _ _ _ (hodb _ rfl)).trans hg
     have HTYP := Lib.hid htyp
     clear htyp
     have i0 : Wz.cell? ⟨b, 0, none⟩ = some _ := hblz.cell 0
     have i1 : Wz.cell? ⟨b, 1, none⟩ = some _ := hblz.cell 1
     have i2 : Wz.cell? ⟨b, 2, none⟩ = some _ := hblz.cell 2
     have i3 : Wz.cell? ⟨b, 3, none⟩ = some _ := hblz.cell 3
     have hJz : J (x :: xs) Wz := hJs _ _ _ hJ ⟨⟨hbz.os, hbz.tape, hbz.output, hbz.size, fun k hk _ => hbz.block k hk⟩, by
      obtain ⟨_, _, hbx, _⟩ := HA.out.bx
      exact ⟨_, _, _, hbx⟩⟩
     obtain ⟨fn, tmps, assign, body, hy, hR⟩ := hY (x :: xs) ((x :: xs).drop n) _ Wz hJz ⟨x, xs, n, rfl, HRUN.out.symm, HE.out.le, rfl, .slice p0 n0 q0, od, n, rfl, x.ownerRd HX.out, hdz, fun a' ha => ⟨by
      subst ha
      have h1 := (hrow.2 a'.block rfl).1
      obtain ⟨_, _, hbx, _⟩ := HA.out.bx
      have h2 := hbx.lt
      omega, HTYP.out a' ha⟩⟩
     rw [htt] at hy
     have HAZ := Lib.hid (HA.out.on hbz)
     have HNLE := Lib.hid (show n <= m by have := HE.out.le; rw [HM.out] at this; exact this)
     have hnm : (n : Int) <= (m : Int) := by have := HNLE.out; omega
     have HBZ := Lib.hid hbz
     have HCZ := Lib.hid HBX.out
     clear hbs hrow hbo htt hdr hodb hcl hdc hbz hblz hdz hJz HBX HEL
     gi_wp2_with fail
     refine (callsIn_wide.2 HCL.out).mono ?_
     rintro ez Wy ⟨rfl, rfl⟩
     gi_wp2_with fail
     refine hR.mono ?_
     rintro ew W9 (⟨rfl, hJ9, hk9⟩ | ⟨rfl, hJx9⟩)
     ·have HA9 := Lib.hid (HAZ.out.kp hk9 hsk)
      obtain ⟨o9, c9, hbx9, hrd9, hoo9⟩ := HA9.out.bx
      rw [HM.out] at hbx9 hrd9
      have hq : Wz.cell? ⟨bl, 0, none⟩ = some (.slice (some a) m c) := HCZ.out _ HBZ.out
      have hq9 : W9.cell? ⟨bl, 0, none⟩ = some (.slice o9 m c9) := hbx9.cell
      have he9 : (Value.slice (some a) m c) = .slice o9 m c9 := by
       have := (hk9.1.cell (p := ⟨bl, 0, none⟩) hsk)
       rw [hq, hq9] at this
       exact (Option.some.inj this).symm
      cases he9
      have hf9 := hbx9.frozen
      have hbnd : m <= c /\ c <= 9223372036854775807 := by
       obtain ⟨_, o', c', e', h1, h2, _⟩ := hrd9
       rw [List.length_map, HM.out] at e' h1
       cases e'
       unfold maxLen at h2
       exact ⟨h1, by omega⟩
      obtain ⟨hbd1, hbd2⟩ := hbnd
      have hrq : RecsRd (.slice (if c = n then some a else some (a.add (n * 7))) ((x :: xs).length - n) (c - n)) (((x :: xs).drop n).map (·.1)) W9 := by
       have hrd9' : RecsRd (.slice (some a) (x :: xs).length c) ((x :: xs).map (·.1)) W9 := by rw [HM.out]; exact hrd9
       split
       ·rename_i hcn
        rw [show c - n = 0 by omega]
        exact RecsRd.tail0 hrd9' n (by rw [HM.out]; exact HNLE.out) hcn
       ·exact RecsRd.tail (o := some a) hrd9' n (by rw [HM.out]; exact HNLE.out)
      have HN1 := Lib.hid (SetsAt.next HA9.out hbl (show Box bl 24 (.slice (some a) (x :: xs).length c) W9 by rw [HM.out]; exact hbx9) n (by rw [HM.out]; exact HNLE.out) _ (c - n) hrq (fun a' h => ⟨a, rfl, by split at h <;> cases h <;> first | rfl | exact add_block a _⟩))
      rw [HM.out] at HN1
      have HST := Lib.hid (fun v : Value => hJs _ W9 (W9.setCell ⟨bl, 0, none⟩ v) hJ9 ⟨grownBy_setCell' W9 bl v, ⟨_, _, _, hbx9⟩⟩)
      have HSE := Lib.hid (fun u : Value => (hbx9.set u).cell)
      clear hrd9 hoo9 hbx9 hJ9 hk9 hq hrq
      gi_wp2_with fail
      go_roundw
      case rel => exact ⟨(x :: xs).drop n, by simp only [List.length_drop, HM.out]; omega, HST.out _, HN1.out⟩
      case measure =>
       have g := HSE.out (.slice (if c = n then some a else some (a.add (n * 7))) (m - n) (c - n))
       have g0 := HC0.out
       have g1 := HNPOS.out
       simp only [lenAt, g, g0]
       omega
     ·gi_wp2
      refine bodyPost_ret (results_none rfl _ _ _) rfl ?_
      exact ⟨⟨_, rfl⟩, .inr hJx9⟩
end
end Go.Proofs.YtneghhbclefmoaaGreat
end
