/- Records: rows in order (plain). -/
import Derived.Test.YtbgbahllhjelgaaGreatDoorKRcL
namespace Go.Proofs.YtbgbahllhjelgaaGreatDoor
open Go.RowKit Go.Shelf Go.Sort
set_option maxRecDepth 100000
namespace Rc
theorem put_last {x : PRec} : ∀ {L : List PRec}, (∀ y ∈ L, cmp y x < 0) -> put x L = L ++ [x]
 | [], _ => rfl
 | y :: L, h => by
  have h0 := h y List.mem_cons_self
  show (if cmp y x < 0 then y :: put x L else _) = _
  rw [if_pos h0, put_last (fun z hz => h z (List.mem_cons_of_mem _ hz))]; rfl
theorem refCanon_self (l : List PRec) (h : Strict l) : refCanon l = l := by
 suffices H : ∀ n (l : List PRec), l.length = n -> Strict l -> refCanon l = l from H _ l rfl h
 intro n
 induction n with
 | zero => intro l hl _; obtain rfl := List.length_eq_zero_iff.1 hl; rfl
 | succ n ih =>
  intro l hl hs
  obtain ⟨l', x, rfl⟩ : ∃ l' x, l = l' ++ [x] := by
   rcases List.eq_nil_or_concat l with h | ⟨l', x, h⟩
   ·rw [h] at hl; simp at hl
   ·exact ⟨l', x, by rw [h, List.concat_eq_append]⟩
  have hs' := List.pairwise_append.1 hs
  rw [refCanon_snoc, ih l' (by simpa using hl) hs'.1, put_last (fun y hy => hs'.2.2 y hy x (by simp))]
theorem canon_twice (l : List PRec) : canon (canon l) = canon l := by
 have h := (canon_of l).strict
 rw [canon_eq (canon l)]
 exact refCanon_self _ h
theorem cmp_flip {a b : PRec} (h : cmp a b = 0) : cmp b a = 0 := by have := cmp_cm.anti a b; omega
theorem merge_same (a b : List PRec) : sameRow (canon (a ++ b)) (canon (canon a ++ canon b)) = true := by
 have ha := canon_of a
 have hb := canon_of b
 refine (canon_of _).same (canon_of _) (fun y hy => ?_) (fun y hy => ?_)
 ·rcases List.mem_append.1 hy with h | h
  ·obtain ⟨x, hx, e, t⟩ := ha.all y h; exact ⟨x, List.mem_append_left _ hx, e, t⟩
  ·obtain ⟨x, hx, e, t⟩ := hb.all y h; exact ⟨x, List.mem_append_right _ hx, e, t⟩
 ·rcases List.mem_append.1 hy with h | h
  ·obtain ⟨x, hx, e, t⟩ := ha.some y h; exact ⟨x, List.mem_append_left _ hx, cmp_flip e, by omega⟩
  ·obtain ⟨x, hx, e, t⟩ := hb.some y h; exact ⟨x, List.mem_append_right _ hx, cmp_flip e, by omega⟩
theorem merge_swap (a b : List PRec) : sameRow (canon (a ++ b)) (canon (b ++ a)) = true := canon_mem fun x => by simp [or_comm]
theorem turn_same (l : List PRec) (k : Nat) : sameRow (canon l) (canon (l.drop k ++ l.take k)) = true := canon_mem fun x => by
 have h := List.take_append_drop k l
 constructor
 ·intro hx
  rw [<- h] at hx
  rcases List.mem_append.1 hx with h | h
  ·exact List.mem_append_right _ h
  ·exact List.mem_append_left _ h
 ·intro hx
  rcases List.mem_append.1 hx with h | h
  ·exact List.mem_of_mem_drop h
  ·exact List.mem_of_mem_take h
theorem canon_next (l : List PRec) (i : Nat) (h : i + 1 < (canon l).length) : cmp (canon l)[i] (canon l)[i + 1] < 0 :=
 List.pairwise_iff_getElem.1 (canon_of l).strict i (i + 1) (by omega) h (by omega)
theorem canon_least {l : List PRec} {x y : PRec} (hx : x ∈ canon l) (hy : y ∈ l) (e : cmp y x = 0) : x.ttl <= y.ttl := by
 have h := canon_of l
 obtain ⟨z, hz, e2, t⟩ := h.all y hy
 have : z = x := Strict.one h.strict hz hx (cmp_cm.zero e2 e)
 rw [<- this]; exact t
theorem canon_one {l : List PRec} {x : PRec} (hx : x ∈ canon l) : ∃ k, ∃ h : k < l.length, cmp l[k] x = 0 /\ l[k].ttl = x.ttl := by
 obtain ⟨y, hy, e, t⟩ := (canon_of l).some x hx
 obtain ⟨k, hk, rfl⟩ := List.mem_iff_getElem.1 hy
 exact ⟨k, hk, cmp_flip e, t.symm⟩
end Rc
end Go.Proofs.YtbgbahllhjelgaaGreatDoor
