/- Records: what is read of them in memory; rows compared. -/
import Derived.Test.YtgmbefolgppmdaaGreatDoorKRcSpec
namespace Go.Proofs.YtgmbefolgppmdaaGreatDoor
open Go.RowKit Go.Shelf
set_option maxRecDepth 100000
def Sl (v : Value) (cs : List Value) (W : World) : Prop := ∃ o cap, v = .slice o cs.length cap /\ cs.length <= cap /\ cap <= maxLen /\ (o = none -> cap = 0) /\ ∀ j (h : j < cs.length), ∃ a, o = some a /\ W.cell? (a.add j) = some cs[j]
theorem Sl.kept {v cs} {W W' : World} (h : Sl v cs W) (hk : ∀ p : Addr, p.block < W.heap.size -> W'.cell? p = W.cell? p) : Sl v cs W' := by
 obtain ⟨o, cap, h1, h2, h3, h4, h5⟩ := h
 refine ⟨o, cap, h1, h2, h3, h4, fun j hj => ?_⟩
 obtain ⟨a, ha, hc⟩ := h5 j hj
 exact ⟨a, ha, (hk _ (cell_lt hc)).trans hc⟩
theorem Sl.below {v cs} {W W' : World} (h : Sl v cs W) (hb : Below W.heap.size W W') : Sl v cs W' := h.kept fun _p hp => hb.cell hp
theorem Sl.form {v cs} {W : World} (h : Sl v cs W) : ∃ o cap, v = .slice o cs.length cap /\ cs.length <= cap /\ cap <= maxLen := by
 obtain ⟨o, cap, h1, h2, h3, h4, h5⟩ := h
 exact ⟨o, cap, h1, h2, h3⟩
theorem Sl.cells {o cs n cap} {W : World} (h : Sl (.slice o n cap) cs W) : ∀ W', Below W.heap.size W W' -> ∀ k (h : k < cs.length), ∃ x, o = some x /\ W'.cell? (x.add k) = some cs[k] := by
 intro W' hb k hk
 obtain ⟨o', cap', h1, h2, h3, h4, h5⟩ := h.below hb
 cases h1
 exact h5 k hk
theorem Rd.sl {v l} {W : World} (h : Rd v l W) : Sl v (l.map S) W := by
 obtain ⟨o, cap, h1, h2, h3, h4, h5⟩ := h
 refine ⟨o, cap, by rw [List.length_map]; exact h1, by rw [List.length_map]; exact h2, h3, h4, fun j hj => ?_⟩
 obtain ⟨a, ha, hc⟩ := h5 j (by simpa using hj)
 exact ⟨a, ha, by rw [hc, List.getElem_map]⟩
namespace Rc
structure RowAt {α : Type} (f : α -> α -> Int) (a b : List α) (k : Nat) : Prop where
 la : k <= a.length
 lb : k <= b.length
 eq : row f a b = row f (a.drop k) (b.drop k)
theorem RowAt.start {α : Type} (f : α -> α -> Int) (a b : List α) : RowAt f a b 0 := ⟨by omega, by omega, rfl⟩
variable {α : Type} {f : α -> α -> Int} {a b : List α} {k : Nat}
theorem RowAt.go (h : RowAt f a b k) (ha : k < a.length) (hb : k < b.length) (hz : f a[k] b[k] = 0) : RowAt f a b (k + 1) := by
 refine ⟨ha, hb, ?_⟩
 rw [h.eq, List.drop_eq_getElem_cons ha, List.drop_eq_getElem_cons hb, row, if_neg (by simpa using hz)]
theorem RowAt.stop (h : RowAt f a b k) (ha : k < a.length) (hb : k < b.length) (hz : f a[k] b[k] ≠ 0) : row f a b = f a[k] b[k] := by
 rw [h.eq, List.drop_eq_getElem_cons ha, List.drop_eq_getElem_cons hb, row, if_pos hz]
theorem RowAt.more (h : RowAt f a b k) (ha : k < a.length) (hb : ¬ k < b.length) : row f a b = 1 := by
 rw [h.eq, List.drop_eq_getElem_cons ha, List.drop_of_length_le (l := b) (by omega), row]
theorem RowAt.less (h : RowAt f a b k) (ha : ¬ k < a.length) (hb : a.length < b.length) : row f a b = -1 := by
 have := h.la
 rw [h.eq, List.drop_of_length_le (l := a) (by omega), List.drop_eq_getElem_cons (show k < b.length by omega), row]
theorem RowAt.same (h : RowAt f a b k) (ha : ¬ k < a.length) (hb : ¬ a.length < b.length) : row f a b = 0 := by
 have := h.la; have := h.lb
 rw [h.eq, List.drop_of_length_le (l := a) (by omega), List.drop_of_length_le (l := b) (by omega), row]
end Rc
set_option maxHeartbeats 1000000 in
theorem names_cf {α : Type} (f : α -> α -> Int) (ax bx : List α) (us vs : List Value) (v u : Value) (w : World) (gf : Nat) (eg : ∀ args w, (callFunc gf args).run Tryz.prog w = .ok (.enter gf args) w) (hv : Sl v us w) (hu : Sl u vs w) (la : us.length = ax.length) (lb : vs.length = bx.length) (na : ax.length <= 1000000) (nb : bx.length <= 1000000)
  (hcb : ∀ wr, Below w.heap.size w wr -> ∀ k (h1 : k < us.length) (h2 : k < vs.length) (h3 : k < ax.length) (h4 : k < bx.length), Calls Tryz.prog gf #[us[k], vs[k]] wr (Gives (.int .i64 (f ax[k] bx[k])) wr)) :
  Calls Tryz.prog 85 #[v, u, .func (.func gf) #[] #[]] w (Gives (.int .i64 (Rc.row f ax bx)) w) := by
 obtain ⟨o, cap, rfl, h1, h2⟩ := hv.form
 obtain ⟨o', cap', rfl, h1', h2'⟩ := hu.form
 have HC := Lib.hid hv.cells
 have HD := Lib.hid hu.cells
 have HCB := Lib.hid hcb
 have LA := Lib.hid la
 have LB := Lib.hid lb
 have na' : (ax.length : Int) <= 1000000 := by omega
 have nb' : (bx.length : Int) <= 1000000 := by omega
 rw [la, lb]
 clear hv hu hcb na nb la lb h1 h2 h1' h2'
 go_enter Tryz.func85, Tryz.ntmps85
 go_wp2
 go_loopw [13] (fun i wr => ∃ k : Nat, Rc.RowAt f ax bx k /\ i = .int .i64 k /\ Below w.heap.size w wr) (fun i _ => ax.length - (intOf i).toNat)
 case atStart => exact ⟨0, Rc.RowAt.start f ax bx, rfl, Below.refl _ _⟩
 case round =>
  obtain ⟨k, hto, rfl, hb⟩ := hrel
  by_cases hlt : k < ax.length
  ·have hltz : (k : Int) < (ax.length : Int) := by omega
   obtain ⟨x, rfl, e1⟩ := HC.out _ hb k (by rw [LA.out]; exact hlt)
   by_cases hlt2 : k < bx.length
   ·have hltz2 : ¬ ((bx.length : Int) <= (k : Int)) := by omega
    have hltz3 : (k : Int) < (bx.length : Int) := by omega
    obtain ⟨y, rfl, e2⟩ := HD.out _ hb k (by rw [LB.out]; exact hlt2)
    have HCK := Lib.hid (HCB.out _ hb k (by rw [LA.out]; exact hlt) (by rw [LB.out]; exact hlt2) hlt hlt2)
    obtain ⟨z, hz⟩ : ∃ z, f ax[k] bx[k] = z := ⟨_, rfl⟩
    have HZ := Lib.hid hz
    by_cases h0 : z = 0
    ·have HT := Lib.hid (hto.go hlt hlt2 (hz.trans h0))
     clear hto hz
     go_wp2_with fail
     refine HCK.out.mono ?_
     rintro e w1 ⟨rfl, b1⟩
     rw [HZ.out]
     subst h0
     go_wp2_with fail
     exact ⟨⟨k + 1, HT.out, by go_num, below5 hb b1⟩, by simp [intOf]; omega⟩
    ·have HF := Lib.hid (hto.stop hlt hlt2 (by rw [hz]; exact h0))
     have hz' : (z != 0) = true := by simpa using h0
     clear hto hz h0
     go_wp2_with fail
     refine HCK.out.mono ?_
     rintro e w1 ⟨rfl, b1⟩
     rw [HZ.out]
     go_wp2_with fail
     go_ret
     exact ⟨by rw [HF.out, HZ.out]; rfl, below5 hb b1⟩
   ·have hltz2 : (bx.length : Int) <= (k : Int) := by omega
    have HF := Lib.hid (hto.more hlt hlt2)
    clear hto
    go_wp2_with fail
    go_ret
    exact ⟨by rw [HF.out]; rfl, hb⟩
  ·have hltz : ¬ ((k : Int) < (ax.length : Int)) := by omega
   by_cases hll : ax.length < bx.length
   ·have hllz : (ax.length : Int) < (bx.length : Int) := by omega
    have HF := Lib.hid (hto.less hlt hll)
    clear hto
    go_wp2_with fail
    go_ret
    exact ⟨by rw [HF.out]; rfl, hb⟩
   ·have hllz : ¬ ((ax.length : Int) < (bx.length : Int)) := by omega
    have HF := Lib.hid (hto.same hlt hll)
    clear hto
    go_wp2_with fail
    go_ret
    exact ⟨by rw [HF.out]; rfl, hb⟩
set_option maxHeartbeats 1000000 in
theorem names_row {α : Type} (f : α -> α -> Int) (ax bx : List α) (us vs : List Value) (v u : Value) (w : World) (gf : Nat) (eg : ∀ args w, (callFunc gf args).run Tryz.prog w = .ok (.enter gf args) w) (hv : Sl v us w) (hu : Sl u vs w) (la : us.length = ax.length) (lb : vs.length = bx.length) (na : ax.length <= 1000000) (nb : bx.length <= 1000000)
  (hcb : ∀ wr, Below w.heap.size w wr -> ∀ k (h1 : k < us.length) (h2 : k < vs.length) (h3 : k < ax.length) (h4 : k < bx.length), Calls Tryz.prog gf #[us[k], vs[k]] wr (Gives (.int .i64 (f ax[k] bx[k])) wr)) :
  Calls Tryz.prog 56 #[v, u, .func (.func gf) #[] #[]] w (Gives (.int .i64 (Rc.row f ax bx)) w) := by
 have HC := Lib.hid (names_cf f ax bx us vs v u w gf eg hv hu la lb na nb hcb)
 clear hcb hv hu la lb
 go_enter Tryz.func56, Tryz.ntmps56
 go_wp2_with fail
 refine HC.out.mono ?_
 rintro e w1 ⟨rfl, b1⟩
 go_wp2_with fail
 go_ret
 exact ⟨rfl, b1⟩
set_option maxHeartbeats 1000000 in
theorem nums_cf {α : Type} (f : α -> α -> Int) (ax bx : List α) (us vs : List Value) (v u : Value) (w : World) (gf : Nat) (eg : ∀ args w, (callFunc gf args).run Tryz.prog w = .ok (.enter gf args) w) (hv : Sl v us w) (hu : Sl u vs w) (la : us.length = ax.length) (lb : vs.length = bx.length) (na : ax.length <= 1000000) (nb : bx.length <= 1000000)
  (hcb : ∀ wr, Below w.heap.size w wr -> ∀ k (h1 : k < us.length) (h2 : k < vs.length) (h3 : k < ax.length) (h4 : k < bx.length), Calls Tryz.prog gf #[us[k], vs[k]] wr (Gives (.int .i64 (f ax[k] bx[k])) wr)) :
  Calls Tryz.prog 86 #[v, u, .func (.func gf) #[] #[]] w (Gives (.int .i64 (Rc.row f ax bx)) w) := by
 obtain ⟨o, cap, rfl, h1, h2⟩ := hv.form
 obtain ⟨o', cap', rfl, h1', h2'⟩ := hu.form
 have HC := Lib.hid hv.cells
 have HD := Lib.hid hu.cells
 have HCB := Lib.hid hcb
 have LA := Lib.hid la
 have LB := Lib.hid lb
 have na' : (ax.length : Int) <= 1000000 := by omega
 have nb' : (bx.length : Int) <= 1000000 := by omega
 rw [la, lb]
 clear hv hu hcb na nb la lb h1 h2 h1' h2'
 go_enter Tryz.func86, Tryz.ntmps86
 go_wp2
 go_loopw [13] (fun i wr => ∃ k : Nat, Rc.RowAt f ax bx k /\ i = .int .i64 k /\ Below w.heap.size w wr) (fun i _ => ax.length - (intOf i).toNat)
 case atStart => exact ⟨0, Rc.RowAt.start f ax bx, rfl, Below.refl _ _⟩
 case round =>
  obtain ⟨k, hto, rfl, hb⟩ := hrel
  by_cases hlt : k < ax.length
  ·have hltz : (k : Int) < (ax.length : Int) := by omega
   obtain ⟨x, rfl, e1⟩ := HC.out _ hb k (by rw [LA.out]; exact hlt)
   by_cases hlt2 : k < bx.length
   ·have hltz2 : ¬ ((bx.length : Int) <= (k : Int)) := by omega
    have hltz3 : (k : Int) < (bx.length : Int) := by omega
    obtain ⟨y, rfl, e2⟩ := HD.out _ hb k (by rw [LB.out]; exact hlt2)
    have HCK := Lib.hid (HCB.out _ hb k (by rw [LA.out]; exact hlt) (by rw [LB.out]; exact hlt2) hlt hlt2)
    obtain ⟨z, hz⟩ : ∃ z, f ax[k] bx[k] = z := ⟨_, rfl⟩
    have HZ := Lib.hid hz
    by_cases h0 : z = 0
    ·have HT := Lib.hid (hto.go hlt hlt2 (hz.trans h0))
     clear hto hz
     go_wp2_with fail
     refine HCK.out.mono ?_
     rintro e w1 ⟨rfl, b1⟩
     rw [HZ.out]
     subst h0
     go_wp2_with fail
     exact ⟨⟨k + 1, HT.out, by go_num, below5 hb b1⟩, by simp [intOf]; omega⟩
    ·have HF := Lib.hid (hto.stop hlt hlt2 (by rw [hz]; exact h0))
     have hz' : (z != 0) = true := by simpa using h0
     clear hto hz h0
     go_wp2_with fail
     refine HCK.out.mono ?_
     rintro e w1 ⟨rfl, b1⟩
     rw [HZ.out]
     go_wp2_with fail
     go_ret
     exact ⟨by rw [HF.out, HZ.out]; rfl, below5 hb b1⟩
   ·have hltz2 : (bx.length : Int) <= (k : Int) := by omega
    have HF := Lib.hid (hto.more hlt hlt2)
    clear hto
    go_wp2_with fail
    go_ret
    exact ⟨by rw [HF.out]; rfl, hb⟩
  ·have hltz : ¬ ((k : Int) < (ax.length : Int)) := by omega
   by_cases hll : ax.length < bx.length
   ·have hllz : (ax.length : Int) < (bx.length : Int) := by omega
    have HF := Lib.hid (hto.less hlt hll)
    clear hto
    go_wp2_with fail
    go_ret
    exact ⟨by rw [HF.out]; rfl, hb⟩
   ·have hllz : ¬ ((ax.length : Int) < (bx.length : Int)) := by omega
    have HF := Lib.hid (hto.same hlt hll)
    clear hto
    go_wp2_with fail
    go_ret
    exact ⟨by rw [HF.out]; rfl, hb⟩
set_option maxHeartbeats 1000000 in
theorem nums_row {α : Type} (f : α -> α -> Int) (ax bx : List α) (us vs : List Value) (v u : Value) (w : World) (gf : Nat) (eg : ∀ args w, (callFunc gf args).run Tryz.prog w = .ok (.enter gf args) w) (hv : Sl v us w) (hu : Sl u vs w) (la : us.length = ax.length) (lb : vs.length = bx.length) (na : ax.length <= 1000000) (nb : bx.length <= 1000000)
  (hcb : ∀ wr, Below w.heap.size w wr -> ∀ k (h1 : k < us.length) (h2 : k < vs.length) (h3 : k < ax.length) (h4 : k < bx.length), Calls Tryz.prog gf #[us[k], vs[k]] wr (Gives (.int .i64 (f ax[k] bx[k])) wr)) :
  Calls Tryz.prog 57 #[v, u, .func (.func gf) #[] #[]] w (Gives (.int .i64 (Rc.row f ax bx)) w) := by
 have HC := Lib.hid (nums_cf f ax bx us vs v u w gf eg hv hu la lb na nb hcb)
 clear hcb hv hu la lb
 go_enter Tryz.func57, Tryz.ntmps57
 go_wp2_with fail
 refine HC.out.mono ?_
 rintro e w1 ⟨rfl, b1⟩
 go_wp2_with fail
 go_ret
 exact ⟨rfl, b1⟩
set_option maxHeartbeats 1000000 in
theorem texts_cf {α : Type} (f : α -> α -> Int) (ax bx : List α) (us vs : List Value) (v u : Value) (w : World) (gf : Nat) (eg : ∀ args w, (callFunc gf args).run Tryz.prog w = .ok (.enter gf args) w) (hv : Sl v us w) (hu : Sl u vs w) (la : us.length = ax.length) (lb : vs.length = bx.length) (na : ax.length <= 1000000) (nb : bx.length <= 1000000)
  (hcb : ∀ wr, Below w.heap.size w wr -> ∀ k (h1 : k < us.length) (h2 : k < vs.length) (h3 : k < ax.length) (h4 : k < bx.length), Calls Tryz.prog gf #[us[k], vs[k]] wr (Gives (.int .i64 (f ax[k] bx[k])) wr)) :
  Calls Tryz.prog 88 #[v, u, .func (.func gf) #[] #[]] w (Gives (.int .i64 (Rc.row f ax bx)) w) := by
 obtain ⟨o, cap, rfl, h1, h2⟩ := hv.form
 obtain ⟨o', cap', rfl, h1', h2'⟩ := hu.form
 have HC := Lib.hid hv.cells
 have HD := Lib.hid hu.cells
 have HCB := Lib.hid hcb
 have LA := Lib.hid la
 have LB := Lib.hid lb
 have na' : (ax.length : Int) <= 1000000 := by omega
 have nb' : (bx.length : Int) <= 1000000 := by omega
 rw [la, lb]
 clear hv hu hcb na nb la lb h1 h2 h1' h2'
 go_enter Tryz.func88, Tryz.ntmps88
 go_wp2
 go_loopw [13] (fun i wr => ∃ k : Nat, Rc.RowAt f ax bx k /\ i = .int .i64 k /\ Below w.heap.size w wr) (fun i _ => ax.length - (intOf i).toNat)
 case atStart => exact ⟨0, Rc.RowAt.start f ax bx, rfl, Below.refl _ _⟩
 case round =>
  obtain ⟨k, hto, rfl, hb⟩ := hrel
  by_cases hlt : k < ax.length
  ·have hltz : (k : Int) < (ax.length : Int) := by omega
   obtain ⟨x, rfl, e1⟩ := HC.out _ hb k (by rw [LA.out]; exact hlt)
   by_cases hlt2 : k < bx.length
   ·have hltz2 : ¬ ((bx.length : Int) <= (k : Int)) := by omega
    have hltz3 : (k : Int) < (bx.length : Int) := by omega
    obtain ⟨y, rfl, e2⟩ := HD.out _ hb k (by rw [LB.out]; exact hlt2)
    have HCK := Lib.hid (HCB.out _ hb k (by rw [LA.out]; exact hlt) (by rw [LB.out]; exact hlt2) hlt hlt2)
    obtain ⟨z, hz⟩ : ∃ z, f ax[k] bx[k] = z := ⟨_, rfl⟩
    have HZ := Lib.hid hz
    by_cases h0 : z = 0
    ·have HT := Lib.hid (hto.go hlt hlt2 (hz.trans h0))
     clear hto hz
     go_wp2_with fail
     refine HCK.out.mono ?_
     rintro e w1 ⟨rfl, b1⟩
     rw [HZ.out]
     subst h0
     go_wp2_with fail
     exact ⟨⟨k + 1, HT.out, by go_num, below5 hb b1⟩, by simp [intOf]; omega⟩
    ·have HF := Lib.hid (hto.stop hlt hlt2 (by rw [hz]; exact h0))
     have hz' : (z != 0) = true := by simpa using h0
     clear hto hz h0
     go_wp2_with fail
     refine HCK.out.mono ?_
     rintro e w1 ⟨rfl, b1⟩
     rw [HZ.out]
     go_wp2_with fail
     go_ret
     exact ⟨by rw [HF.out, HZ.out]; rfl, below5 hb b1⟩
   ·have hltz2 : (bx.length : Int) <= (k : Int) := by omega
    have HF := Lib.hid (hto.more hlt hlt2)
    clear hto
    go_wp2_with fail
    go_ret
    exact ⟨by rw [HF.out]; rfl, hb⟩
  ·have hltz : ¬ ((k : Int) < (ax.length : Int)) := by omega
   by_cases hll : ax.length < bx.length
   ·have hllz : (ax.length : Int) < (bx.length : Int) := by omega
    have HF := Lib.hid (hto.less hlt hll)
    clear hto
    go_wp2_with fail
    go_ret
    exact ⟨by rw [HF.out]; rfl, hb⟩
   ·have hllz : ¬ ((ax.length : Int) < (bx.length : Int)) := by omega
    have HF := Lib.hid (hto.same hlt hll)
    clear hto
    go_wp2_with fail
    go_ret
    exact ⟨by rw [HF.out]; rfl, hb⟩
set_option maxHeartbeats 1000000 in
theorem texts_row {α : Type} (f : α -> α -> Int) (ax bx : List α) (us vs : List Value) (v u : Value) (w : World) (gf : Nat) (eg : ∀ args w, (callFunc gf args).run Tryz.prog w = .ok (.enter gf args) w) (hv : Sl v us w) (hu : Sl u vs w) (la : us.length = ax.length) (lb : vs.length = bx.length) (na : ax.length <= 1000000) (nb : bx.length <= 1000000)
  (hcb : ∀ wr, Below w.heap.size w wr -> ∀ k (h1 : k < us.length) (h2 : k < vs.length) (h3 : k < ax.length) (h4 : k < bx.length), Calls Tryz.prog gf #[us[k], vs[k]] wr (Gives (.int .i64 (f ax[k] bx[k])) wr)) :
  Calls Tryz.prog 59 #[v, u, .func (.func gf) #[] #[]] w (Gives (.int .i64 (Rc.row f ax bx)) w) := by
 have HC := Lib.hid (texts_cf f ax bx us vs v u w gf eg hv hu la lb na nb hcb)
 clear hcb hv hu la lb
 go_enter Tryz.func59, Tryz.ntmps59
 go_wp2_with fail
 refine HC.out.mono ?_
 rintro e w1 ⟨rfl, b1⟩
 go_wp2_with fail
 go_ret
 exact ⟨rfl, b1⟩
set_option maxHeartbeats 1000000 in
theorem isNaNU_any (x : Int) (w : World) : Calls Tryz.prog 87 #[.int .u32 x] w fun e w' => e = .returned (.bool false) /\ w = w' := by
 go_enter Tryz.func87, Tryz.ntmps87
 go_wp2
 go_ret
 exact ⟨rfl, rfl⟩
set_option maxHeartbeats 1000000 in
theorem cmpU_any (x y : Int) (w : World) : Calls Tryz.prog 58 #[.int .u32 x, .int .u32 y] w fun e w' => e = .returned (.int .i64 (Nm.sgn x y)) /\ w = w' := by
 rcases Int.lt_trichotomy x y with h | h | h
 ·have H := Lib.hid (show Nm.sgn x y = -1 by unfold Nm.sgn; rw [if_pos h])
  go_enter Tryz.func58, Tryz.ntmps58
  go_wp2_with (go_at_call 87; refine (isNaNU_any _ _).mono ?_; rintro e w1 ⟨rfl, rfl⟩)
  go_ret
  exact ⟨by rw [H.out]; rfl, rfl⟩
 ·subst h
  have H := Lib.hid (show Nm.sgn x x = 0 by unfold Nm.sgn; rw [if_neg (by omega), if_neg (by omega)])
  go_enter Tryz.func58, Tryz.ntmps58
  go_wp2_with (go_at_call 87; refine (isNaNU_any _ _).mono ?_; rintro e w1 ⟨rfl, rfl⟩)
  go_ret
  exact ⟨by rw [H.out]; rfl, rfl⟩
 ·have H := Lib.hid (show Nm.sgn x y = 1 by unfold Nm.sgn; rw [if_neg (by omega), if_pos h])
  go_enter Tryz.func58, Tryz.ntmps58
  go_wp2_with (go_at_call 87; refine (isNaNU_any _ _).mono ?_; rintro e w1 ⟨rfl, rfl⟩)
  go_ret
  exact ⟨by rw [H.out]; rfl, rfl⟩
def BtRd (v : Value) (l : List UInt8) (W : World) : Prop := Sl v (l.map fun b : UInt8 => Value.int .u8 (b.toNat : Int)) W
theorem addr_next (a : Addr) (j : Nat) : (a.add 1).add j = a.add (j + 1) := by rw [add_add', Nat.add_comm]
theorem run_loadBytes (W : World) : ∀ (l : List UInt8) (a : Addr) (acc : ByteArray), (∀ j (h : j < l.length), W.cell? (a.add j) = some (.int .u8 (l[j].toNat : Int))) ->
  (Extern.Bytes.loadBytes a l.length acc).run Tryz.prog W = .ok ⟨acc.data ++ l.toArray⟩ W
 | [], a, acc, _ => by
  have e : (⟨acc.data ++ ([] : List UInt8).toArray⟩ : ByteArray) = acc := by cases acc; simp
  rw [e]; rfl
 | b :: l, a, acc, h => by
  have h0 := h 0 (by simp)
  have hl : (load a).run Tryz.prog W = .ok (.int .u8 (b.toNat : Int)) W := by
   have : a.add 0 = a := rfl
   rw [this] at h0
   simp only [List.getElem_cons_zero] at h0
   simp [load, Sem.run, h0]
  have ih := run_loadBytes W l (a.add 1) (acc.push b) (fun j hj => by
   have := h (j + 1) (by simp; omega)
   rw [addr_next]; simpa using this)
  have e1 : (b.toNat : Int).toNat.toUInt8 = b := by simp
  have e2 : (⟨(acc.push b).data ++ l.toArray⟩ : ByteArray) = ⟨acc.data ++ (b :: l).toArray⟩ := by
   cases acc; simp [ByteArray.push]
  show Sem.run Tryz.prog (do match <- load a with
   | .int .u8 b => Extern.Bytes.loadBytes (a.add 1) l.length (acc.push b.toNat.toUInt8)
   | _ => stuck "loadBytes: a byte expected") W = _
  rw [Sem.run_bind, hl]
  simp only [Result.andThen]
  rw [e1, ih, e2]
theorem run_bytesOf {v l} {W : World} (h : BtRd v l W) : (Extern.Bytes.bytesOf v).run Tryz.prog W = .ok ⟨l.toArray⟩ W := by
 obtain ⟨o, cap, h1, h2, h3, h4, h5⟩ := h
 rw [h1]
 rcases o with _ | a
 ·have : l = [] := by
   have := h4 rfl
   rw [List.length_map] at h2
   exact List.length_eq_zero_iff.1 (by omega)
  subst this
  rfl
 ·rw [List.length_map]
  show (Extern.Bytes.loadBytes a l.length .empty).run Tryz.prog W = _
  rw [run_loadBytes W l a .empty (fun j hj => by
   obtain ⟨a', e, hc⟩ := h5 j (by simpa using hj)
   cases e
   simpa using hc)]
  have he : ByteArray.empty.data = #[] := rfl
  rw [he, Array.empty_append]
theorem run_compareBytes {v u : Value} {a b : List UInt8} {W : World} (hv : BtRd v a W) (hu : BtRd u b W) : (Extern.BytealgCompare.compare #[v, u]).run Tryz.prog W = .ok (.int .i64 (Lib.compareBytes a b)) W := by
 change Sem.run Tryz.prog (do pure (goInt (Extern.BytealgCompare.cmp (<- Extern.Bytes.bytesOf v) (<- Extern.Bytes.bytesOf u)))) W = _
 rw [Sem.run_bind, run_bytesOf hv]
 simp only [Result.andThen]
 rw [Sem.run_bind, run_bytesOf hu]
 simp only [Result.andThen, Sem.run_pure]
 rw [Lib.cmp_eq]
 rfl
set_option maxHeartbeats 1000000 in
theorem bytesCompare_any (v u : Value) (a b : List UInt8) (w : World) (hv : BtRd v a w) (hu : BtRd u b w) : Calls Tryz.prog 61 #[v, u] w fun e w' => e = .returned (.int .i64 (Lib.compareBytes a b)) /\ w = w' := by
 have HR := Lib.hid (run_compareBytes hv hu)
 clear hv hu
 go_enter Tryz.func61, Tryz.ntmps61
 go_wp2
 rw [run_callFunc_extern Tryz.func90 (by kernel_rfl) (by kernel_rfl) (by kernel_rfl) (e := Extern.BytealgCompare.compare) (by kernel_rfl), HR.out]
 simp only [Result.andThen]
 rw [Oper.upon_value]
 go_wp2
 go_ret
 exact ⟨rfl, rfl⟩
def Rc.firstI : List Int -> Int
 | [] => 0
 | x :: l => if x ≠ 0 then x else Rc.firstI l
set_option maxHeartbeats 1000000 in
theorem cmpOr_any (v : Value) (l : List Int) (w : World) (hv : Sl v (l.map fun n : Int => Value.int .i64 n) w) (hn : l.length <= 1000000) : Calls Tryz.prog 25 #[v] w fun e w' => e = .returned (.int .i64 (Rc.firstI l)) /\ w = w' := by
 obtain ⟨o, cap, rfl, h1, h2⟩ := hv.form
 have HC := Lib.hid hv.cells
 rw [List.length_map] at h1 ⊢
 have nl : (l.length : Int) <= 1000000 := by omega
 clear hv hn h1 h2
 go_enter Tryz.func25, Tryz.ntmps25
 go_wp2
 go_loopw [8] (fun i wr => ∃ k : Nat, Hid (k <= l.length /\ Rc.firstI l = Rc.firstI (l.drop k)) /\ i = .int .i64 k /\ w = wr) (fun i _ => l.length - (intOf i).toNat)
 case atStart => exact ⟨0, ⟨by omega, rfl⟩, rfl, rfl⟩
 case round =>
  obtain ⟨k, hto, rfl, rfl⟩ := hrel
  by_cases hlt : k < l.length
  ·have hltz : (k : Int) < (l.length : Int) := by omega
   obtain ⟨x, rfl, e1⟩ := HC.out _ (Below.refl _ _) k (by rw [List.length_map]; exact hlt)
   rw [List.getElem_map] at e1
   obtain ⟨z, hz⟩ : ∃ z, l[k] = z := ⟨_, rfl⟩
   rw [hz] at e1
   have HZ : Hid (Rc.firstI (l.drop k) = if z ≠ 0 then z else Rc.firstI (l.drop (k + 1))) := by rw [List.drop_eq_getElem_cons hlt, hz]; rfl
   clear hz
   by_cases h0 : z = 0
   ·subst h0
    go_wp2_with fail
    refine ⟨⟨k + 1, ⟨hlt, ?_⟩, by go_num, by first | rfl | trivial⟩, by simp [intOf]; omega⟩
    rw [hto.out.2, HZ.out, if_neg (by simp)]
   ·have hz' : (z != 0) = true := by simpa using h0
    have HF : Hid (Rc.firstI l = z) := by show _ = _; rw [hto.out.2, HZ.out, if_pos h0]
    clear h0
    go_wp2_with fail
    go_ret
    exact ⟨by rw [HF.out]; rfl, rfl⟩
  ·have hltz : ¬ ((k : Int) < (l.length : Int)) := by omega
   have HF : Hid (Rc.firstI l = 0) := by show _ = _; rw [hto.out.2, List.drop_of_length_le (by omega)]; rfl
   go_wp2_with fail
   go_ret
   exact ⟨by rw [HF.out]; rfl, rfl⟩
end Go.Proofs.YtgmbefolgppmdaaGreatDoor
