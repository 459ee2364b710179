/- Types of records: plain laws for Decimal and Parse. -/
import Derived.Test.YtjhibbjafjhhjaaDoorKTyA
import Derived.Lib.ParseIntBCases
import Derived.Lib.SlTrimSet
namespace Go.Proofs.YtjhibbjafjhhjaaDoor
open Go.RowKit Go.Shelf
set_option maxRecDepth 100000
namespace Ty
def digs : List UInt8 := [48, 49, 50, 51, 52, 53, 54, 55, 56, 57]
theorem digs_has (c : UInt8) : digs.contains c = dig c := by
 have h : ∀ n : Fin 256, digs.contains (UInt8.ofNat n.1) = dig (UInt8.ofNat n.1) := by decide +kernel
 have := h ⟨c.toNat, c.toNat_lt⟩
 simpa using this
theorem dw_nil {α : Type} {p : α -> Bool} : ∀ {l : List α}, l.dropWhile p = [] ↔ ∀ x ∈ l, p x = true
 | [] => by simp
 | a :: l => by
  rw [List.dropWhile_cons]
  by_cases h : p a = true
  ·rw [if_pos h, dw_nil]; simp [h]
  ·rw [if_neg h]; simp [h]
theorem trim_nil {cs s : List UInt8} : Lib.trimS s cs = [] ↔ ∀ x ∈ s, cs.contains x = true := by
 unfold Lib.trimS Lib.trimLeftS Lib.trimRightS
 rw [dw_nil]
 constructor
 ·intro h
  have h2 : ∀ x ∈ s.reverse.dropWhile (cs.contains ·), cs.contains x = true := fun x hx => h x (List.mem_reverse.2 hx)
  have h3 : s.reverse.dropWhile (cs.contains ·) = [] := by
   rcases hd : s.reverse.dropWhile (cs.contains ·) with _ | ⟨c, l⟩
   ·rfl
   ·exfalso
    have h4 := h2 c (by rw [hd]; exact List.mem_cons_self)
    have h5 := List.head_dropWhile_not (cs.contains ·) (l := s.reverse) (by rw [hd]; simp)
    simp only [hd, List.head_cons] at h5
    rw [h4] at h5; cases h5
  rw [dw_nil] at h3
  exact fun x hx => h3 x (List.mem_reverse.2 hx)
 ·intro h x hx
  have h3 : s.reverse.dropWhile (cs.contains ·) = [] := by
   rw [dw_nil]; exact fun y hy => h y (List.mem_reverse.1 hy)
  rw [h3] at hx; cases hx
theorem trim_digs (s : List UInt8) : Lib.trimS s digs = [] ↔ s.all dig = true := by
 rw [trim_nil, List.all_eq_true]
 simp only [digs_has]
theorem fold_ge (l : List UInt8) : ∀ acc, acc <= l.foldl step acc := by
 induction l with
 | nil => intro acc; exact Nat.le_refl _
 | cons c l ih =>
  intro acc
  have := ih (step acc c)
  rw [List.foldl_cons]
  unfold step at this ⊢
  omega
theorem parseM (l : List UInt8) : ∀ acc, l.all dig = true -> acc <= 18446744073709551615 -> (l.foldl step acc <= 18446744073709551615 -> Lib.parseUintM 18446744073709551615 acc l = .ok (l.foldl step acc)) /\ (18446744073709551615 < l.foldl step acc -> Lib.parseUintM 18446744073709551615 acc l = .range) := by
 induction l with
 | nil => intro acc _ h; exact ⟨fun _ => rfl, fun h2 => by simp only [List.foldl_nil] at h2; omega⟩
 | cons c l ih =>
  intro acc hd h
  simp only [List.all_cons, Bool.and_eq_true] at hd
  have hc : 48 <= c.toNat /\ c.toNat <= 57 := by simpa [dig] using hd.1
  have hs : step acc c = acc * 10 + (c.toNat - 48) := by unfold step; omega
  have hg := fold_ge l (step acc c)
  rw [List.foldl_cons]
  obtain ⟨v, hv⟩ : ∃ v, l.foldl step (step acc c) = v := ⟨_, rfl⟩
  by_cases h2 : 18446744073709551615 < acc * 10 + (c.toNat - 48)
  ·have hr : Lib.parseUintM 18446744073709551615 acc (c :: l) = .range := by
    simp only [Lib.parseUintM]
    rw [if_pos hc]
    by_cases h1 : 1844674407370955162 <= acc
    ·rw [if_pos h1]
    ·rw [if_neg h1, if_pos h2]
   exact ⟨fun h3 => by omega, fun _ => hr⟩
  ·have hr : Lib.parseUintM 18446744073709551615 acc (c :: l) = Lib.parseUintM 18446744073709551615 (step acc c) l := by
    simp only [Lib.parseUintM]
    rw [if_pos hc, if_neg (by omega), if_neg h2, hs]
   rw [hr]
   exact ih _ hd.2 (by omega)
theorem parse_ok {l : List UInt8} (hd : l.all dig = true) (hn : l ≠ []) (hv : val l <= 18446744073709551615) : Lib.parseUintB 64 l = .ok (val l) := by
 unfold Lib.parseUintB
 rw [if_neg hn]
 exact (parseM l 0 hd (by omega)).1 hv
theorem parse_range {l : List UInt8} (hd : l.all dig = true) (hn : l ≠ []) (hv : 18446744073709551615 < val l) : Lib.parseUintB 64 l = .range := by
 unfold Lib.parseUintB
 rw [if_neg hn]
 exact (parseM l 0 hd (by omega)).2 hv
theorem cut_eq (f : List UInt8) : cut f = (Lib.trimPrefix f [116, 121, 112, 101], Lib.hasPrefix f [116, 121, 112, 101]) := by
 have h := Lib.hasPrefix_of_take f [116, 121, 112, 101]
 unfold cut Lib.trimPrefix
 by_cases ht : f.take 4 = [116, 121, 112, 101]
 ·have hl : 4 <= f.length := by have := congrArg List.length ht; simp at this; omega
  have hp : Lib.hasPrefix f [116, 121, 112, 101] = true := by rw [<- h]; simp [ht, hl]
  rw [if_pos ht, hp]; rfl
 ·have hp : Lib.hasPrefix f [116, 121, 112, 101] = false := by rw [<- h]; simp [ht]
  rw [if_neg ht, hp]; rfl
theorem typeOf_eq (f : List UInt8) : (types.find? fun p => p.1 == f) = (names.find? fun p => Lb.fold p.2 == f).map fun p => (Lb.fold p.2, p.1) := by
 unfold types; rw [List.find?_map]; rfl
theorem typeOf_some {f : List UInt8} {t : Int} (h : typeOf f = some t) : ((types.find? fun p => p.1 == f).map (·.2)).getD 0 = t /\ (types.find? fun p => p.1 == f).isSome = true := by
 rw [typeOf_eq]
 unfold typeOf at h
 rcases hf : names.find? (fun p => Lb.fold p.2 == f) with _ | p
 ·rw [hf] at h; cases h
 ·rw [hf] at h; simp only [Option.map_some, Option.some.injEq] at h; subst h; exact ⟨by rw [hf]; rfl, by rw [hf]; rfl⟩
theorem typeOf_none {f : List UInt8} (h : typeOf f = none) : (types.find? fun p => p.1 == f).isSome = false := by
 rw [typeOf_eq]
 unfold typeOf at h
 rcases hf : names.find? (fun p => Lb.fold p.2 == f) with _ | p
 ·rw [hf]; rfl
 ·rw [hf] at h; cases h
end Ty
end Go.Proofs.YtjhibbjafjhhjaaDoor
