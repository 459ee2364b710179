/- Records: plain laws of a row in order, each once. -/
import Derived.Test.YtgmbefolgppmdaaGreatDoorKRcH
namespace Go.Proofs.YtgmbefolgppmdaaGreatDoor
open Go.RowKit Go.Shelf
set_option maxRecDepth 100000
namespace Rc
theorem sgn_zero {a b : Int} (h : Nm.sgn a b = 0) : a = b := by
 unfold Nm.sgn at h; split at h
 ·omega
 ·split at h <;> omega
def Strict (l : List PRec) : Prop := l.Pairwise fun a b => cmp a b < 0
theorem put_mem {x z : PRec} : ∀ {L : List PRec}, z ∈ put x L -> z ∈ L \/ (cmp z x = 0 /\ z.ttl = x.ttl)
 | [], h => by
  simp only [put, List.mem_singleton] at h; subst h; exact .inr ⟨cmp_cm.refl _, rfl⟩
 | y :: L, h => by
  unfold put at h
  split at h
  ·rcases List.mem_cons.1 h with rfl | h
   ·exact .inl List.mem_cons_self
   ·rcases put_mem h with h | h
    ·exact .inl (List.mem_cons_of_mem _ h)
    ·exact .inr h
  ·split at h
   ·rename_i h0
    rcases List.mem_cons.1 h with rfl | h
    ·split
     ·exact .inr ⟨h0, rfl⟩
     ·exact .inl List.mem_cons_self
    ·exact .inl (List.mem_cons_of_mem _ h)
   ·rcases List.mem_cons.1 h with rfl | h
    ·exact .inr ⟨cmp_cm.refl _, rfl⟩
    ·exact .inl h
theorem put_has (x : PRec) : ∀ L : List PRec, ∃ z ∈ put x L, cmp z x = 0 /\ z.ttl <= x.ttl
 | [] => ⟨x, by simp [put], cmp_cm.refl _, Nat.le_refl _⟩
 | y :: L => by
  unfold put
  split
  ·obtain ⟨z, h1, h2⟩ := put_has x L
   exact ⟨z, List.mem_cons_of_mem _ h1, h2⟩
  ·split
   ·rename_i h0
    refine ⟨_, List.mem_cons_self, ?_, ?_⟩
    ·split
     ·exact h0
     ·exact h0
    ·split
     ·exact Nat.le_refl _
     ·omega
   ·exact ⟨x, List.mem_cons_self, cmp_cm.refl _, Nat.le_refl _⟩
theorem put_keeps (x : PRec) : ∀ {L : List PRec} {y : PRec}, y ∈ L -> ∃ z ∈ put x L, cmp z y = 0 /\ z.ttl <= y.ttl
 | c :: L, y, h => by
  unfold put
  split
  ·rcases List.mem_cons.1 h with rfl | h
   ·exact ⟨y, List.mem_cons_self, cmp_cm.refl _, Nat.le_refl _⟩
   ·obtain ⟨z, h1, h2⟩ := put_keeps x h
    exact ⟨z, List.mem_cons_of_mem _ h1, h2⟩
  ·split
   ·rcases List.mem_cons.1 h with rfl | h
    ·refine ⟨_, List.mem_cons_self, ?_, ?_⟩
     ·split
      ·exact cmp_cm.refl y
      ·exact cmp_cm.refl y
     ·split
      ·show x.ttl <= y.ttl; omega
      ·exact Nat.le_refl _
    ·exact ⟨y, List.mem_cons_of_mem _ h, cmp_cm.refl _, Nat.le_refl _⟩
   ·exact ⟨y, List.mem_cons_of_mem _ h, cmp_cm.refl _, Nat.le_refl _⟩
theorem put_strict (x : PRec) : ∀ {L : List PRec}, Strict L -> Strict (put x L)
 | [], _ => List.pairwise_singleton _ _
 | y :: L, h => by
  have h' := List.pairwise_cons.1 h
  unfold put
  split
  ·rename_i hl
   refine List.pairwise_cons.2 ⟨fun z hz => ?_, put_strict x h'.2⟩
   rcases put_mem hz with hz | ⟨hz, _⟩
   ·exact h'.1 z hz
   ·have := cmp_cm.anti z x
    exact cmp_cm.lt_le hl (by omega)
  ·split
   ·refine List.pairwise_cons.2 ⟨fun z hz => ?_, h'.2⟩
    have := h'.1 z hz
    split
    ·exact this
    ·exact this
   ·have ha := cmp_cm.anti x y
    refine List.pairwise_cons.2 ⟨fun z hz => ?_, h⟩
    rcases List.mem_cons.1 hz with rfl | hz
    ·omega
    ·exact cmp_cm.lt_le (b := y) (by omega) (by have := h'.1 z hz; omega)
structure Of (c l : List PRec) : Prop where
 strict : Strict c
 some : ∀ x ∈ c, ∃ y ∈ l, cmp x y = 0 /\ x.ttl = y.ttl
 all : ∀ y ∈ l, ∃ x ∈ c, cmp x y = 0 /\ x.ttl <= y.ttl
theorem Of.nil : Of [] [] := ⟨List.Pairwise.nil, by simp, by simp⟩
theorem Of.put {c l : List PRec} (h : Of c l) (x : PRec) : Of (put x c) (l ++ [x]) := by
 refine ⟨put_strict x h.strict, fun z hz => ?_, fun y hy => ?_⟩
 ·rcases put_mem hz with hz | hz
  ·obtain ⟨y, hy, k⟩ := h.some z hz
   exact ⟨y, List.mem_append_left _ hy, k⟩
  ·exact ⟨x, by simp, hz⟩
 ·rcases List.mem_append.1 hy with hy | hy
  ·obtain ⟨z, hz, k1, k2⟩ := h.all y hy
   obtain ⟨u, hu, k3, k4⟩ := put_keeps x hz
   exact ⟨u, hu, cmp_cm.zero k3 k1, by omega⟩
  ·rw [List.mem_singleton] at hy; subst hy
   exact put_has y c
theorem Strict.one : ∀ {L : List PRec}, Strict L -> ∀ {x y : PRec}, x ∈ L -> y ∈ L -> cmp x y = 0 -> x = y
 | c :: L, h, x, y, hx, hy, e => by
  have h' := List.pairwise_cons.1 h
  rcases List.mem_cons.1 hx with h1 | h1 <;> rcases List.mem_cons.1 hy with h2 | h2
  ·rw [h1, h2]
  ·have := h'.1 y h2; rw [h1] at e; omega
  ·have := h'.1 x h1; have := cmp_cm.anti x y; rw [h2] at e this; omega
  ·exact Strict.one h'.2 h1 h2 e
theorem same1_iff {a b : PRec} : same1 a b = true ↔ a.ttl = b.ttl /\ cmp a b = 0 := by simp [same1]
theorem sameRow_of : ∀ {a b : List PRec}, Strict a -> Strict b -> (∀ x ∈ a, ∃ y ∈ b, cmp x y = 0 /\ x.ttl = y.ttl) -> (∀ y ∈ b, ∃ x ∈ a, cmp x y = 0) -> sameRow a b = true
 | [], [], _, _, _, _ => rfl
 | [], y :: b, _, _, _, h => by obtain ⟨x, hx, _⟩ := h y List.mem_cons_self; cases hx
 | x :: a, [], _, _, h, _ => by obtain ⟨x, hx, _⟩ := h x List.mem_cons_self; cases hx
 | x :: a, y :: b, ha, hb, h1, h2 => by
  have ha' := List.pairwise_cons.1 ha
  have hb' := List.pairwise_cons.1 hb
  have hxy : cmp x y = 0 := by
   obtain ⟨u, hu, k, _⟩ := h1 x List.mem_cons_self
   obtain ⟨v, hv, k'⟩ := h2 y List.mem_cons_self
   rcases List.mem_cons.1 hu with rfl | hu
   ·exact k
   ·rcases List.mem_cons.1 hv with rfl | hv
    ·exact k'
    ·exfalso
     have e1 := hb'.1 u hu
     have e2 := ha'.1 v hv
     have a1 := cmp_cm.anti x u
     have e3 := cmp_cm.lt_le (a := y) (b := u) (c := x) e1 (by omega)
     have e4 := cmp_cm.lt_le (a := y) (b := x) (c := v) e3 (by omega)
     have := cmp_cm.anti v y
     omega
  have ht : x.ttl = y.ttl := by
   obtain ⟨u, hu, k, k2⟩ := h1 x List.mem_cons_self
   have : u = y := Strict.one hb hu List.mem_cons_self (by
    have := cmp_cm.anti x u
    exact cmp_cm.zero (b := x) (by omega) hxy)
   rw [<- this]; exact k2
  rw [sameRow, same1_iff.2 ⟨ht, hxy⟩, Bool.true_and]
  refine sameRow_of ha'.2 hb'.2 (fun z hz => ?_) (fun z hz => ?_)
  ·obtain ⟨u, hu, k, k2⟩ := h1 z (List.mem_cons_of_mem _ hz)
   rcases List.mem_cons.1 hu with rfl | hu
   ·exfalso
    have e1 := ha'.1 z hz
    have := cmp_cm.anti z u
    have := cmp_cm.zero (a := x) (b := u) (c := z) hxy (by omega)
    omega
   ·exact ⟨u, hu, k, k2⟩
  ·obtain ⟨u, hu, k⟩ := h2 z (List.mem_cons_of_mem _ hz)
   rcases List.mem_cons.1 hu with rfl | hu
   ·exfalso
    have e1 := hb'.1 z hz
    have := cmp_cm.anti u y
    have := cmp_cm.zero (a := y) (b := u) (c := z) (by omega) k
    omega
   ·exact ⟨u, hu, k⟩
theorem Of.same {a b l m : List PRec} (h : Of a l) (k : Of b m) (h1 : ∀ y ∈ l, ∃ z ∈ m, cmp z y = 0 /\ z.ttl <= y.ttl) (h2 : ∀ y ∈ m, ∃ z ∈ l, cmp z y = 0 /\ z.ttl <= y.ttl) : sameRow a b = true := by
 have one : ∀ {a b l m : List PRec}, Of a l -> Of b m -> (∀ y ∈ l, ∃ z ∈ m, cmp z y = 0 /\ z.ttl <= y.ttl) -> ∀ x ∈ a, ∃ y ∈ b, cmp x y = 0 /\ y.ttl <= x.ttl := by
  intro a b l m h k h1 x hx
  obtain ⟨y, hy, e1, e2⟩ := h.some x hx
  obtain ⟨z, hz, e3, e4⟩ := h1 y hy
  obtain ⟨u, hu, e5, e6⟩ := k.all z hz
  refine ⟨u, hu, ?_, by omega⟩
  have a1 := cmp_cm.anti z y
  have a2 := cmp_cm.anti u z
  exact cmp_cm.zero e1 (cmp_cm.zero (b := z) (by omega) (by omega))
 refine sameRow_of h.strict k.strict (fun x hx => ?_) (fun y hy => ?_)
 ·obtain ⟨y, hy, e1, e2⟩ := one h k h1 x hx
  obtain ⟨x', hx', e3, e4⟩ := one k h h2 y hy
  have : x = x' := Strict.one h.strict hx hx' (cmp_cm.zero e1 e3)
  subst this
  exact ⟨y, hy, e1, by omega⟩
 ·obtain ⟨x, hx, e1, _⟩ := one k h h2 y hy
  have := cmp_cm.anti x y
  exact ⟨x, hx, by omega⟩
theorem Of.self {l : List PRec} (h : Strict l) : Of l l := ⟨h, fun x hx => ⟨x, hx, cmp_cm.refl _, rfl⟩, fun x hx => ⟨x, hx, cmp_cm.refl _, Nat.le_refl _⟩⟩
end Rc
end Go.Proofs.YtgmbefolgppmdaaGreatDoor
