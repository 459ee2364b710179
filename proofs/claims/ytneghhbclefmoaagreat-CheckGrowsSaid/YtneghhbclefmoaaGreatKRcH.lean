/- Records: rows alike. -/
import Derived.Test.YtneghhbclefmoaaGreatKRcG
namespace Go.Proofs.YtneghhbclefmoaaGreat
open Go.RowKit Go.Shelf Go.Sort
set_option maxRecDepth 100000
namespace Rc
def same1 (a b : PRec) : Bool := (a.ttl == b.ttl) && (cmp a b == 0)
def sameRow : List PRec -> List PRec -> Bool
 | [], [] => true
 | x :: a, y :: b => same1 x y && sameRow a b
 | _, _ => false
end Rc
theorem addr7 (a : Addr) (j c : Nat) (hc : 0 < c) : a.add (j + c) = ⟨(a.add j).block, (a.add j).off + c, none⟩ := by
 unfold Addr.add
 rw [if_neg (by omega)]
 split
 ·rename_i h; subst h; simp
 ·simp [Nat.add_assoc]
theorem RecsRd.el {w : World} {o : Option Addr} {n cap : Nat} {l : List (El w)} {W : World} (h : RecsRd (.slice o n cap) (l.map (·.1)) W) : ∀ W', Below W.heap.size W W' -> ∀ (i : Nat) (hi : i < l.length) (c0 c1 c2 c3 c4 c5 c6 : Value), encE l[i] = [c0, c1, c2, c3, c4, c5, c6] -> ∃ a, o = some a /\
  W'.cell? (a.add (i * 7)) = some c0 /\ W'.cell? ⟨(a.add (i * 7)).block, (a.add (i * 7)).off + 1, none⟩ = some c1 /\ W'.cell? ⟨(a.add (i * 7)).block, (a.add (i * 7)).off + 2, none⟩ = some c2 /\ W'.cell? ⟨(a.add (i * 7)).block, (a.add (i * 7)).off + 3, none⟩ = some c3 /\ W'.cell? ⟨(a.add (i * 7)).block, (a.add (i * 7)).off + 4, none⟩ = some c4 /\ W'.cell? ⟨(a.add (i * 7)).block, (a.add (i * 7)).off + 5, none⟩ = some c5 /\ W'.cell? ⟨(a.add (i * 7)).block, (a.add (i * 7)).off + 6, none⟩ = some c6 := by
 intro W' hb i hi c0 c1 c2 c3 c4 c5 c6 hx
 obtain ⟨_, o', cap', h1, h2, h3, h4, h5⟩ := h.kept hb
 cases h1
 have hk : ∀ c, c < 7 -> ∃ a, o = some a /\ W'.cell? (a.add (i * 7 + c)) = (encE l[i])[c]? := fun c hc => by
  have hl : i * 7 + c < (encP (l.map (·.1))).length := by rw [encP_map, flat_len encE 7 encE_len]; omega
  obtain ⟨a, ha, hcell⟩ := h5 _ hl
  refine ⟨a, ha, ?_⟩
  rw [hcell, <- flat7 l i hi c hc, <- encP_map, List.getElem?_eq_getElem hl]
 obtain ⟨a, ha, k0⟩ := hk 0 (by omega)
 have hk' : ∀ c, c < 7 -> W'.cell? (a.add (i * 7 + c)) = (encE l[i])[c]? := fun c hc => by
  obtain ⟨a', ha', h⟩ := hk c hc
  rw [ha] at ha'; cases ha'; exact h
 rw [hx] at hk'
 exact ⟨a, ha, hk' 0 (by omega), by rw [<- addr7 a _ 1 (by omega)]; exact hk' 1 (by omega), by rw [<- addr7 a _ 2 (by omega)]; exact hk' 2 (by omega), by rw [<- addr7 a _ 3 (by omega)]; exact hk' 3 (by omega), by rw [<- addr7 a _ 4 (by omega)]; exact hk' 4 (by omega), by rw [<- addr7 a _ 5 (by omega)]; exact hk' 5 (by omega), by rw [<- addr7 a _ 6 (by omega)]; exact hk' 6 (by omega)⟩
structure Rc.SameAt (a b : List Rc.PRec) (k : Nat) : Prop where
 la : k <= a.length
 eq : Rc.sameRow a b = Rc.sameRow (a.drop k) (b.drop k)
end Go.Proofs.YtneghhbclefmoaaGreat
