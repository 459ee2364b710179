
import Derived.Test.YtneghhbclefmoaaGreatKNmSpec
import Derived.Lib.SliceRun
section
/- Names: how long, whether they may be, a star ahead. -/
namespace Go.Proofs.YtneghhbclefmoaaGreat
open Go.RowKit Go.Shelf
set_option maxRecDepth 100000
attribute [local go_sem] Oper.semAt_some
theorem Nm.len_append (a b : List (List UInt8)) : Nm.len (a ++ b) + 1 = Nm.len a + Nm.len b := by
 induction a with
 | nil => simp [Nm.len]; omega
 | cons x r ih => simp only [List.cons_append, Nm.len]; omega
theorem Nm.len_take (n : List (List UInt8)) (k : Nat) (h : k < n.length) : Nm.len (n.take (k + 1)) = Nm.len (n.take k) + 1 + n[k].length := by
 have := Nm.len_append (n.take k) [n[k]]
 rw [<- List.take_succ_eq_append_getElem h] at this
 simp only [Nm.len] at this; omega
set_option maxHeartbeats 1000000 in
theorem refLen_any (v : Value) (n : List (List UInt8)) (w : World) (hv : Rd v n w) (hn : NB n) :
  Calls Tryz.prog 98 #[v] w (Gives (.int .i64 (Nm.len n)) w) := by
 obtain ⟨o, cap, rfl, h1, h2⟩ := hv.form
 have HC := Lib.hid hv.cells
 have n1 : (n.length : Int) <= 1000 := by have := hn.1; omega
 have GN := Lib.hid (show ∀ k, Nm.len (n.take k) <= 1001001 from fun k => (hn.take k).len)
 have GA := Lib.hid (show ∀ k (h : k < n.length), n[k].length <= 1000 from fun k h => hn.get h)
 clear hv hn
 go_enter Tryz.func98, Tryz.ntmps98
 go_wp2
 go_loopw [3, 4] (fun s i wr => ∃ k : Nat, k <= n.length /\ s = .int .i64 (Nm.len (n.take k)) /\ i = .int .i64 k /\ Below w.heap.size w wr) (fun _ i _ => n.length - (intOf i).toNat)
 case atStart => exact ⟨0, by omega, rfl, rfl, Below.refl _ _⟩
 case round =>
  obtain ⟨k, hk, rfl, rfl, hb⟩ := hrel
  by_cases hlt : k < n.length
  ·obtain ⟨x, rfl, e1⟩ := HC.out _ hb k hlt
   have g1 := GN.out k
   have g2 := GA.out k hlt
   have HT := Lib.hid (Nm.len_take n k hlt)
   go_wp2_with fail
   exact ⟨⟨k + 1, by omega, by rw [HT.out]; go_num, by go_num, hb⟩, by simp [intOf]; omega⟩
  ·obtain rfl : k = n.length := by omega
   go_wp2_with fail
   go_ret
   exact ⟨by rw [List.take_length]; rfl, hb⟩
def lblY (n : List (List UInt8)) (k : Nat) (_ : World) (v : Array Value) (k' : Nat) : Prop := ∃ h : k < n.length, v = #[S (n[n.length - 1 - k]'(by omega))] /\ k' = k + 1
def lblPre (B0 b : Nat) (o : Option Addr) (cap : Nat) (n : List (List UInt8)) (W : World) : Prop :=
 W.cell? ⟨b, 0, none⟩ = some (.slice o n.length cap) /\ ∀ j (h : j < n.length), ∃ a : Addr, o = some a /\ a.block < B0 /\ W.cell? (a.add j) = some (S n[j])
def keepsTo (B0 b : Nat) (A W : World) : Prop := sameCell b A W /\ ∀ p : Addr, p.block < B0 -> W.cell? p = A.cell? p
theorem keepsTo.trans {B0 b : Nat} (A B C : World) (h : keepsTo B0 b A B) (k : keepsTo B0 b B C) : keepsTo B0 b A C := ⟨sameCell.trans A B C h.1 k.1, fun p hp => (k.2 p hp).trans (h.2 p hp)⟩
theorem keepsTo.put {B0 b L : Nat} (hL : B0 <= L) (hb : b ≠ L) (A : World) (o : Obj) : keepsTo B0 b A (A.putObj L o) := ⟨sameCell.put (by omega) A o, fun p hp => World.cell?_of_block (World.putObj_heap_other (by omega))⟩
theorem add_block (a : Addr) (j : Nat) : (a.add j).block = a.block := by unfold Addr.add; split <;> rfl
theorem lblPre.kept {B0 b o cap n A W} (h : lblPre B0 b o cap n A) (hk : keepsTo B0 b A W) : lblPre B0 b o cap n W :=
 ⟨Eq.trans hk.1 h.1, fun j hj => by obtain ⟨a, h1, h2, h3⟩ := h.2 j hj; exact ⟨a, h1, h2, (hk.2 _ (by rw [add_block]; exact h2)).trans h3⟩⟩
def LenI (B : Nat) (w : World) (o : Option Addr) (cap : Nat) (n : List (List UInt8)) (k : Nat) (W : World) : Prop :=
 k <= n.length /\ Box B 3 (.int .i64 (Nm.len (n.drop (n.length - k)))) W /\ Box (B + 1) 23 (.slice o n.length cap) W /\ Below B w W /\ B + 2 <= W.heap.size
theorem LenI.put {B w o cap n L} (hL : B <= L) (k : Nat) (A : World) (r : Loop) (ob : Obj) (h : LenI B w o cap n k A) (hr : A.heap[L]? = some (.loop r)) : LenI B w o cap n k (A.putObj L ob) := by
 obtain ⟨h0, h1, h2, h3, h4⟩ := h
 exact ⟨h0, h1.put hr ob, h2.put hr ob, below_put h3 hL hr (by omega) ob, by simpa using h4⟩
theorem LenI.alloc {B w o cap n k W} (h : LenI B w o cap n k W) (ob : Obj) : LenI B w o cap n k (W.alloc ob) := by
 obtain ⟨h0, h1, h2, h3, h4⟩ := h
 exact ⟨h0, h1.alloc ob, h2.alloc ob, h3.alloc (by omega) ob, by simp; omega⟩
end Go.Proofs.YtneghhbclefmoaaGreat
end
section
/- Names: whether they may be, in words, a star ahead. -/
namespace Go.Proofs.YtneghhbclefmoaaGreat
open Go.RowKit Go.Shelf
set_option maxRecDepth 100000
theorem Nm.check0_step {n : List (List UInt8)} {k} (h : Nm.check0 n = Nm.check0 (n.drop k)) (hk : k < n.length) (hc : Lb.check n[k].length = 0) : Nm.check0 n = Nm.check0 (n.drop (k + 1)) := by
 rw [h, List.drop_eq_getElem_cons hk]; simp [Nm.check0, hc]
theorem Nm.check0_stop {n : List (List UInt8)} {k} (h : Nm.check0 n = Nm.check0 (n.drop k)) (hk : k < n.length) (hc : Lb.check n[k].length ≠ 0) : Nm.check n = Lb.check n[k].length := by
 have : Nm.check0 n = Lb.check n[k].length := by rw [h, List.drop_eq_getElem_cons hk]; simp [Nm.check0, hc]
 unfold Nm.check; rw [this, if_neg hc]
theorem Nm.check0_done {n : List (List UInt8)} (h : Nm.check0 n = Nm.check0 (n.drop n.length)) : Nm.check n = if 255 < Nm.len n then 3 else 0 := by
 rw [List.drop_length] at h; unfold Nm.check; rw [h]; rfl
set_option maxHeartbeats 1000000 in
theorem refCheckName_any (v : Value) (n : List (List UInt8)) (w : World) (hv : Rd v n w) (hn : NB n) :
  Calls Tryz.prog 47 #[v] w (Gives (.int .i64 (Nm.check n)) w) := by
 have HV := Lib.hid (show ∀ wr, Below w.heap.size w wr -> Rd v n wr from fun wr hb => hv.below hb)
 obtain ⟨o, cap, rfl, h1, h2⟩ := hv.form
 have HC := Lib.hid hv.cells
 have n1 : (n.length : Int) <= 1000 := by have := hn.1; omega
 have GA := Lib.hid (show ∀ k (h : k < n.length), n[k].length <= 1000000 from fun k h => by have := hn.get h; omega)
 have HN := Lib.hid hn
 clear hv hn
 go_enter Tryz.func47, Tryz.ntmps47
 go_wp2
 go_loopw [3] (fun i wr => ∃ k : Nat, k <= n.length /\ Nm.check0 n = Nm.check0 (n.drop k) /\ i = .int .i64 k /\ Below w.heap.size w wr) (fun i _ => n.length - (intOf i).toNat)
 case atStart => exact ⟨0, by omega, rfl, rfl, Below.refl _ _⟩
 case round =>
  obtain ⟨k, hk, hch, rfl, hb⟩ := hrel
  have HCH := Lib.hid hch
  clear hch
  by_cases hlt : k < n.length
  ·obtain ⟨x, rfl, e1⟩ := HC.out _ hb k hlt
   have g2 := GA.out k hlt
   by_cases hz : Lb.check n[k].length = 0
   ·have HS := Lib.hid (Nm.check0_step HCH.out hlt hz)
    have HZ := Lib.hid hz
    clear hz
    go_wp2_with fail
    refine (refCheck_any n[k] _ g2).mono ?_
    rintro e w1 ⟨rfl, rfl⟩
    rw [HZ.out]
    go_wp2_with fail
    exact ⟨⟨k + 1, by omega, HS.out, by go_num, hb⟩, by simp [intOf]; omega⟩
   ·have HS := Lib.hid (Nm.check0_stop HCH.out hlt hz)
    have hz' : (Lb.check n[k].length != 0) = true := by simpa using hz
    clear hz
    go_wp2_with fail
    refine (refCheck_any n[k] _ g2).mono ?_
    rintro e w1 ⟨rfl, rfl⟩
    go_wp2_with fail
    go_ret
    exact ⟨by rw [HS.out]; rfl, hb⟩
  ·obtain rfl : k = n.length := by omega
   have HS := Lib.hid (Nm.check0_done HCH.out)
   by_cases hlen : 255 < Nm.len n
   ·have HL := Lib.hid (show Nm.check n = 3 by rw [HS.out, if_pos hlen])
    have hlen' : 255 < (Nm.len n : Int) := by omega
    clear hlen
    go_wp2_with fail
    refine (refLen_any _ n _ (HV.out _ hb) HN.out).mono ?_
    rintro e w1 ⟨rfl, b1⟩
    go_wp2_with fail
    go_ret
    exact ⟨by rw [HL.out]; rfl, below5 hb b1⟩
   ·have HL := Lib.hid (show Nm.check n = 0 by rw [HS.out, if_neg hlen])
    have hlen' : (Nm.len n : Int) <= 255 := by omega
    clear hlen
    go_wp2_with fail
    refine (refLen_any _ n _ (HV.out _ hb) HN.out).mono ?_
    rintro e w1 ⟨rfl, b1⟩
    go_wp2_with fail
    go_ret
    exact ⟨by rw [HL.out]; rfl, below5 hb b1⟩
set_option maxHeartbeats 1000000 in
theorem refWild_any (v : Value) (n : List (List UInt8)) (w : World) (hv : Rd v n w) (hn : NB n) :
  Calls Tryz.prog 94 #[v] w (Gives (.bool (Nm.wild n)) w) := by
 obtain ⟨o, cap, rfl, h1, h2⟩ := hv.form
 have hc := hv.cells w (Below.refl _ _)
 clear hv
 match n with
 | [] =>
  go_enter Tryz.func94, Tryz.ntmps94
  go_wp2_with fail
  go_ret
  exact ⟨rfl, Below.refl _ _⟩
 | x :: r =>
  obtain ⟨a, rfl, e1⟩ := hc 0 (by simp)
  clear hc
  replace e1 : w.cell? a = some (S x) := e1
  have hp : 0 < ((x :: r).length : Int) := by simp
  have hp1 : ((x :: r).length : Int) <= 1000 := by have := hn.1; omega
  clear hn
  obtain ⟨be, hbe⟩ : ∃ be, (x == [42]) = be := ⟨_, rfl⟩
  have HW := Lib.hid (show Nm.wild (x :: r) = be from hbe)
  generalize hm : (x :: r).length = m at *
  go_enter Tryz.func94, Tryz.ntmps94
  go_wp2_with fail
  go_ret
  exact ⟨by rw [HW.out, <- hbe]; rfl, Below.refl _ _⟩
set_option maxHeartbeats 1000000 in
theorem nWild_any (v : Value) (n : List (List UInt8)) (w : World) (hv : Rd v n w) (hn : NB n) :
  Calls Tryz.prog 132 #[v] w (Gives (.bool (Nm.wild n)) w) := by
 obtain ⟨o, cap, rfl, h1, h2⟩ := hv.form
 have hc := hv.cells w (Below.refl _ _)
 clear hv
 match n with
 | [] =>
  go_enter Tryz.func132, Tryz.ntmps132
  go_wp2_with fail
  go_ret
  exact ⟨rfl, Below.refl _ _⟩
 | x :: r =>
  obtain ⟨a, rfl, e1⟩ := hc 0 (by simp)
  clear hc
  replace e1 : w.cell? a = some (S x) := e1
  have hp : 0 < ((x :: r).length : Int) := by simp
  have hp1 : ((x :: r).length : Int) <= 1000 := by have := hn.1; omega
  clear hn
  obtain ⟨be, hbe⟩ : ∃ be, (x == [42]) = be := ⟨_, rfl⟩
  have HW := Lib.hid (show Nm.wild (x :: r) = be from hbe)
  generalize hm : (x :: r).length = m at *
  go_enter Tryz.func132, Tryz.ntmps132
  go_wp2_with fail
  go_ret
  exact ⟨by rw [HW.out, <- hbe]; rfl, Below.refl _ _⟩
end Go.Proofs.YtneghhbclefmoaaGreat
end
section
/- Names in words; octet by octet the same. -/
namespace Go.Proofs.YtneghhbclefmoaaGreat
open Go.RowKit Go.Shelf
set_option maxRecDepth 100000
theorem Nm.words_len (n : List (List UInt8)) (h : ∀ x ∈ n, x.length <= 1000) : (Nm.words n).length <= 4001 * n.length := by
 induction n with
 | nil => simp [Nm.words]
 | cons x r ih =>
  have h1 := ih (fun y hy => h y (List.mem_cons_of_mem _ hy))
  have h2 := h x (List.mem_cons_self ..)
  have h3 := Lb.text_len x
  simp only [Nm.words, List.length_append, List.length_cons]; omega
theorem NB.words {n} (h : NB n) : (Nm.words n).length <= 4001000 := by
 have := Nm.words_len n h.2; have := h.1; omega
def Nm.isTo (a b : List (List UInt8)) (k : Nat) : Prop := k <= a.length /\ ∀ j (h : j < a.length) (h' : j < b.length), j < k -> a[j] = b[j]
theorem Nm.isTo.step {a b k} (h : Nm.isTo a b k) (hk : k < a.length) (hk' : k < b.length) (hl : a[k] = b[k]) : Nm.isTo a b (k + 1) := by
 refine ⟨hk, fun j h1 h2 hj => ?_⟩
 by_cases e : j < k
 ·exact h.2 j h1 h2 e
 ·obtain rfl : j = k := by omega
  exact hl
theorem Nm.isTo.done {a b k} (h : Nm.isTo a b k) (hk : ¬ k < a.length) (hl : a.length = b.length) : (a == b) = true := by
 rw [beq_iff_eq]
 apply List.ext_getElem hl
 intro j h1 h2
 exact h.2 j h1 h2 (by omega)
end Go.Proofs.YtneghhbclefmoaaGreat
end
section
/- Names: a copy, an end cut off, one more ahead. -/
namespace Go.Proofs.YtneghhbclefmoaaGreat
open Go.RowKit Go.Shelf
set_option maxRecDepth 100000
theorem Rd.of_row {R e v l W} (h : Row R e 1 v l.length (l.map S) W) : Rd v l W := Rd.of_strs h.strs
section
variable {F : Fence} {n : Nat}
theorem append_rd (R : Nat -> Prop) {ops : Array Oper} {rest : List Oper} {o : Oper} {a : Act} {w : World} {Q : Exit -> Act -> World -> Prop}
  (hg : o.guard = none) (s x : Operand) (t : TypeId) (ht : Tryz.prog.underlying t = some (.slice 9)) (hop : o.op = Op.call { callee := Callee.builtin Builtin.append, args := #[s, x], argTypes := #[t, t] })
  (v : Value) (k : Nat) (xs : List (List UInt8)) (hs : a.eval s = v) (hrow : Row R 9 1 v k (xs.map S) w) (u : Value) (l : List (List UInt8)) (hx : a.eval x = u) (hu : Rd u l w) (hb : k + l.length <= 100000) (hR : R w.heap.size)
  (hK : ∀ v' w', Row R 9 1 v' (k + l.length) ((xs ++ l).map S) w' -> w.grownBy w' v.ownBlock -> wpListIn F n Tryz.prog ops Q rest (a.put o.dst v') w') :
  wpListIn F n Tryz.prog ops Q (o :: rest) a w := by
 obtain ⟨i0, hi, hz0, hz1, hz2⟩ := info_parts Tryz.info_str
 obtain ⟨oa, cap, rfl, h1, h2, h3, h4⟩ := hu
 cases oa with
 | none =>
  obtain rfl : cap = 0 := h3 rfl
  have hl : l = [] := List.length_eq_zero_iff.1 (by omega)
  subst hl
  refine wpListIn_plain hg fun K hK' => ?_
  have hrun := run_append_owned_none (P := Tryz.prog) (w := w) 0 t o.type 9 i0 1 ht hi v k _ hrow.1
  unfold Oper.wpIn
  refine ⟨?_, ?_⟩
  ·simp [Oper.about, hop, resolve, Target.leads, Sem.run_pure]
  ·rw [Oper.semAt_plain F _ _ (by rw [hop]; intro c hc'; cases hc')]
   simp only [List.length_nil] at hx
   simp [execOp, hop, resolve, invoke, builtin, hs, hx, hrun, Result.andThen]
   exact hK' _ _ (hK _ _ (by simpa using hrow) ⟨rfl, rfl, rfl, Nat.le_refl _, fun _ _ _ => rfl⟩)
 | some ad =>
  refine append_in R hg s x t hop 9 i0 (.string ⟨#[]⟩) 1 16 ht hi hz0 hz1 hz2 rfl (by decide) v k (xs.map S) hs hrow ad l.length cap (l.map S) hx (by simp) (fun j u hj => ?_) (fun u hu => ?_) (by unfold maxLen; omega) (by omega) hR (fun v' w' hr hgr _ => hK v' w' (by rwa [List.map_append]) hgr)
  ·rw [List.getElem?_map] at hj
   obtain ⟨y, hy, rfl⟩ := Option.map_eq_some_iff.1 hj
   obtain ⟨hjl, rfl⟩ := List.getElem?_eq_some_iff.1 hy
   obtain ⟨a', ha, hc⟩ := h4 j hjl
   cases ha; exact hc
  ·obtain ⟨y, _, rfl⟩ := List.mem_map.1 hu
   rfl
end
theorem eql_nil_name (w : World) (o : Option Addr) (l c : Nat) : (binOp .eql 23 (.slice o l c) (.slice none 0 0)).run Tryz.prog w = .ok (.bool o.isNone) w := Lib.run_eql_slice_nil w _ _ o l c 0 0 Tryz.underlying23
attribute [local go_sem] eql_nil_name
abbrev Own (w : World) : Nat -> Prop := fun g => w.heap.size <= g
theorem row_empty (w : World) : Row (Own w) 9 1 (.slice (some ⟨w.heap.size, 0, none⟩) 0 0) 0 [] (w.alloc (.cells #[] 9)) :=
 ⟨World.ownsRow_lit w #[] 0 (Nat.zero_le _) (by unfold maxLen; omega) rfl, fun g hg => by cases hg; exact Nat.le_refl _⟩
def RowOf (l : List (List UInt8)) (w : World) (e : Ending) (w' : World) : Prop := ∃ v, e = .returned v /\ Row (Own w) 9 1 v l.length (l.map S) w' /\ Below w.heap.size w w'
def RdOf (l : List (List UInt8)) (w : World) (e : Ending) (w' : World) : Prop := ∃ v, e = .returned v /\ Rd v l w' /\ Below w.heap.size w w'
set_option maxHeartbeats 1000000 in
theorem clone_any (v : Value) (n : List (List UInt8)) (w : World) (hv : Rd v n w) (hn : NB n) :
  Calls Tryz.prog 55 #[v] w (RowOf n w) := by
 have hn1 := hn.1
 obtain ⟨o, cap, rfl, h1, h2, h3, h4⟩ := id hv
 cases o with
 | none =>
  obtain rfl : cap = 0 := h3 rfl
  have hl : n = [] := List.length_eq_zero_iff.1 (by omega)
  subst hl
  go_enter Tryz.func55, Tryz.ntmps55
  go_wp2_with fail
  go_ret
  exact ⟨_, rfl, Row.nil _ _ _ _, Below.refl _ _⟩
 | some a =>
  refine (callsIn_wide (n := 0)).1 ?_
  refine callsIn_of_wp Tryz.func55 rfl trivial ?_ rfl
  simp only [Tryz.ntmps55, List.size_toArray, List.length_cons, List.length_nil, Nat.reduceAdd, Nat.reduceSub, Array.replicate_succ, Array.replicate_zero, List.push_toArray, List.append_toArray, List.nil_append, List.cons_append]
  gi_wp2_with (gi_at_builtin; refine append_rd (Own w) rfl _ _ _ Tryz.underlying23 rfl _ 0 [] (by rfl) (row_empty w) _ n (by rfl) (hv.kept fun p hp => (World.cell?_of_block (Below.heap_alloc _ _ _ (by omega)))) (by omega) (by simp) ?_; intro v' w' hrow hgr)
  simp only [Nat.zero_add, List.nil_append] at hrow
  go_ret
  exact ⟨_, rfl, hrow, ((Below.refl _ _).alloc (Nat.le_refl _) _).grown hgr (by simp) (fun g hg => by cases hg; exact Nat.le_refl _)⟩
set_option maxHeartbeats 1000000 in
theorem clip_any (v : Value) (n : List (List UInt8)) (w : World) (hv : Rd v n w) (hn : NB n) :
  Calls Tryz.prog 54 #[v] w fun e w' => ∃ v', e = .returned v' /\ Rd v' n w' /\ w' = w := by
 have hn1 := hn.1
 have n1 : (n.length : Int) <= 1000 := by omega
 obtain ⟨o, cap, rfl, h1, h2, h3, h4⟩ := id hv
 unfold maxLen at h2
 have HO := Lib.hid (show o = none -> n.length = 0 from fun h => by have := h3 h; omega)
 have H4 := Lib.hid h4
 clear h3 h4 hv
 go_enter Tryz.func54, Tryz.ntmps54
 go_wp2_with fail
 go_ret
 exact ⟨_, rfl, ⟨o, n.length, rfl, Nat.le_refl _, by unfold maxLen; omega, HO.out, H4.out⟩, rfl⟩
theorem Row.rdOf {l w v w'} (h : Row (Own w) 9 1 v l.length (l.map S) w') : Rd v l w' := Rd.of_row h
theorem RowOf.mono {l w e w'} (h : RowOf l w e w') : RdOf l w e w' := by
 obtain ⟨v, h1, h2, h3⟩ := h; exact ⟨v, h1, h2.rdOf, h3⟩
end Go.Proofs.YtneghhbclefmoaaGreat
end
section
/- Names: where two meet. -/
namespace Go.Proofs.YtneghhbclefmoaaGreat
open Go.RowKit Go.Shelf
set_option maxRecDepth 100000
structure Nm.CoAt (a b : List (List UInt8)) (k : Nat) : Prop where
 le : k <= a.length
 eq : Nm.common a b = Nm.common (a.drop k) b
theorem Nm.CoAt.start (a b : List (List UInt8)) : Nm.CoAt a b 0 := ⟨by omega, rfl⟩
theorem Nm.CoAt.go {a b : List (List UInt8)} {k} (h : Nm.CoAt a b k) (hk : k < a.length) (hu : Nm.under b (a.drop k) = false) : Nm.CoAt a b (k + 1) := by
 refine ⟨hk, ?_⟩
 rw [h.eq]
 rw [List.drop_eq_getElem_cons hk] at hu ⊢
 rw [Nm.common, if_neg (by rw [hu]; decide)]
theorem Nm.CoAt.at {a b : List (List UInt8)} {k} (h : Nm.CoAt a b k) (hu : Nm.under b (a.drop k) = true) : Nm.common a b = a.drop k := by
 rw [h.eq]
 rcases hd : a.drop k with _ | ⟨x, r⟩
 ·rfl
 ·rw [hd] at hu; rw [Nm.common, if_pos hu]
theorem Nm.CoAt.end {a b : List (List UInt8)} {k} (h : Nm.CoAt a b k) (hk : ¬ k < a.length) : Nm.common a b = a.drop k := by
 rw [h.eq, List.drop_of_length_le (by omega)]; rfl
end Go.Proofs.YtneghhbclefmoaaGreat
end
