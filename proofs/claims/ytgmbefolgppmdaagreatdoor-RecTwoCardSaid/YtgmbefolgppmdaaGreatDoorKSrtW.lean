/- A row of things, each of k cells, in one block: what a sort turns. -/
import Derived.Test.YtgmbefolgppmdaaGreatDoorKSrtP
import Derived.Shelf.SlSortCmp.KitK
import Derived.Test.YtgmbefolgppmdaaGreatDoorKRow
section
namespace Go.Proofs.YtgmbefolgppmdaaGreatDoor
open Go.RowKit Go.Shelf Go.Sort
set_option maxRecDepth 100000
section
variable {α : Type} [Inhabited α] {enc : α -> List Value} {k : Nat} {w0 W : World} {blk off : Nat} {l : List α}
def SL (enc : α -> List Value) (k : Nat) (w0 : World) (blk off : Nat) (l : List α) (W : World) : Prop := ∃ t, SWK enc k { w0 with drawn := t } blk off l.toArray W
structure SG (enc : α -> List Value) (k : Nat) (w0 : World) (blk off n : Nat) : Prop where
 hk : ∀ x, (enc x).length = k
 h1 : ∀ x, ∀ v ∈ enc x, v.oneCell' = true
 hH : ∃ d0 : Array α, d0.size = n /\ HoldsK enc k w0 blk off d0
 hblk : blk < w0.heap.size
theorem World.ext' {a b : World} (h1 : a.heap = b.heap) (h2 : a.tape = b.tape) (h3 : a.drawn = b.drawn) (h4 : a.os = b.os) (h5 : a.output = b.output) : a = b := by
 cases a; cases b; simp_all
theorem heap_more {a b : World} (hs : a.heap.size <= b.heap.size) (h : ∀ k, k < a.heap.size -> b.heap[k]? = a.heap[k]?) : b.heap = a.heap ++ b.heap.extract a.heap.size b.heap.size := by
 refine Array.ext (by simp; omega) fun i h1 h2 => ?_
 rw [Array.getElem_append]
 split
 ·rename_i hi
  have := h i hi
  rw [Array.getElem?_eq_getElem h1, Array.getElem?_eq_getElem hi] at this
  exact Option.some.inj this
 ·rw [Array.getElem_extract]
  congr 1; omega
theorem SL.below (h : SL enc k w0 blk off l W) {W' : World} (hb : Below W.heap.size W W') : SL enc k w0 blk off l W' := by
 obtain ⟨t, n, os, rfl⟩ := h
 refine ⟨W'.drawn, 0, os ++ W'.heap.extract (sortWorldK enc k { w0 with drawn := t } blk off n l.toArray os).heap.size W'.heap.size, ?_⟩
 refine World.ext' ?_ hb.tape rfl hb.os hb.output
 refine (heap_more hb.size hb.block).trans ?_
 show _ = (_ ++ (_ ++ _) : Array Obj)
 rw [<- Array.append_assoc]
 rfl
theorem SL.drew (h : SL enc k w0 blk off l W) : SL enc k w0 blk off l W.drew := h.below (Below.refl _ W).drew
theorem SL.start {n : Nat} (_g : SG enc k w0 blk off n) (h : HoldsK enc k w0 blk off l.toArray) : SL enc k w0 blk off l w0 := ⟨w0.drawn, SWK.start h⟩
theorem SG.row {n : Nat} (g : SG enc k w0 blk off n) (t : Nat) : ∃ d0 : Array α, d0.size = n /\ Go.Proofs.RowK enc k { w0 with drawn := t } blk off d0 := by
 obtain ⟨d0, h1, h2⟩ := g.hH
 exact ⟨d0, h1, g.hk, g.h1, h2, g.hblk⟩
theorem get_list {i : Nat} (h : i < l.length) : l.toArray[i]! = l[i] := by
 simp [h]
theorem SL.load (h : SL enc k w0 blk off l W) {n : Nat} (g : SG enc k w0 blk off n) (hn : l.length = n) (P : Program) (i : Nat) (hi : i < l.length) :
  Sem.run P (loadCellsFrom ⟨blk, off + i * k, none⟩ 0 k #[]) W = .ok (enc l[i]).toArray W := by
 obtain ⟨t, h⟩ := h
 obtain ⟨d0, e0, R⟩ := g.row t
 have := h.load R (by rw [e0]; simpa using hn) P i (by simpa using hi)
 rwa [get_list hi] at this
theorem SL.st1 (h : SL enc k w0 blk off l W) {n : Nat} (g : SG enc k w0 blk off n) (hn : l.length = n) (P : Program) (i : Nat) (hi : i < l.length) (y : α) :
  Sem.run P (storeCells ⟨blk, off + i * k, none⟩ (enc y) 0) W.drew = .ok () (W.drew.setCells blk (off + i * k) (enc y)) := by
 obtain ⟨t, h⟩ := h
 obtain ⟨d0, e0, R⟩ := g.row t
 exact h.st1 R (by rw [e0]; simpa using hn) P i (by simpa using hi) y
theorem SL.st2 (h : SL enc k w0 blk off l W) {n : Nat} (g : SG enc k w0 blk off n) (hn : l.length = n) (P : Program) (i j : Nat) (hi : i < l.length) (hj : j < l.length) (y x : α) :
  Sem.run P (storeCells ⟨blk, off + j * k, none⟩ (enc x) 0) (W.drew.setCells blk (off + i * k) (enc y)) = .ok () ((W.drew.setCells blk (off + i * k) (enc y)).setCells blk (off + j * k) (enc x)) := by
 obtain ⟨t, h⟩ := h
 obtain ⟨d0, e0, R⟩ := g.row t
 exact h.st2 R (by rw [e0]; simpa using hn) P i j (by simpa using hi) (by simpa using hj) y x
theorem swap_list {U V Z : List α} {x y : α} : swp (U ++ x :: (V ++ y :: Z)).toArray U.length (U.length + 1 + V.length) = (U ++ y :: (V ++ x :: Z)).toArray := by
 have h1 : (U ++ x :: (V ++ y :: Z)).toArray[U.length]! = x := by simp
 have h2 : (U ++ x :: (V ++ y :: Z)).toArray[U.length + 1 + V.length]! = y := by
  have : (U ++ x :: (V ++ y :: Z)) = (U ++ x :: V) ++ y :: Z := by simp
  rw [this]
  have e : U.length + 1 + V.length = (U ++ x :: V).length := by simp; omega
  rw [e]; simp
 unfold swp
 rw [h1, h2]
 simp only [List.setIfInBounds_toArray]
 congr 1
 rw [List.set_append_right _ _ (by omega), Nat.sub_self, List.set_cons_zero]
 rw [List.set_append_right _ _ (by omega), show U.length + 1 + V.length - U.length = V.length + 1 by omega, List.set_cons_succ, List.set_append_right _ _ (by omega), Nat.sub_self, List.set_cons_zero]
theorem swap_list' {U V Z : List α} {x y : α} : swp (U ++ x :: (V ++ y :: Z)).toArray (U.length + 1 + V.length) U.length = (U ++ y :: (V ++ x :: Z)).toArray := by
 have h1 : (U ++ x :: (V ++ y :: Z)).toArray[U.length]! = x := by simp
 have h2 : (U ++ x :: (V ++ y :: Z)).toArray[U.length + 1 + V.length]! = y := by
  have : (U ++ x :: (V ++ y :: Z)) = (U ++ x :: V) ++ y :: Z := by simp
  rw [this]
  have e : U.length + 1 + V.length = (U ++ x :: V).length := by simp; omega
  rw [e]; simp
 unfold swp
 rw [h1, h2]
 simp only [List.setIfInBounds_toArray]
 congr 1
 rw [List.set_append_right _ _ (by omega), show U.length + 1 + V.length - U.length = V.length + 1 by omega, List.set_cons_succ, List.set_append_right _ _ (by omega), Nat.sub_self, List.set_cons_zero]
 rw [List.set_append_right _ _ (by omega), Nat.sub_self, List.set_cons_zero]
theorem SL.swapped {U V Z : List α} {x y : α} (h : SL enc k w0 blk off (U ++ x :: (V ++ y :: Z)) W) {n : Nat} (g : SG enc k w0 blk off n) :
  SL enc k w0 blk off (U ++ y :: (V ++ x :: Z)) ((W.drew.setCells blk (off + U.length * k) (enc y)).setCells blk (off + (U.length + 1 + V.length) * k) (enc x)) := by
 obtain ⟨t, h⟩ := h
 obtain ⟨d0, e0, R⟩ := g.row t
 have := h.swapped R U.length (U.length + 1 + V.length) (by simp) (by simp; omega)
 rw [swap_list] at this
 have h1 : (U ++ x :: (V ++ y :: Z)).toArray[U.length]! = x := by simp
 have h2 : (U ++ x :: (V ++ y :: Z)).toArray[U.length + 1 + V.length]! = y := by
  have : (U ++ x :: (V ++ y :: Z)) = (U ++ x :: V) ++ y :: Z := by simp
  rw [this]
  have e : U.length + 1 + V.length = (U ++ x :: V).length := by simp; omega
  rw [e]; simp
 rw [h1, h2] at this
 exact ⟨t, this⟩
theorem SL.swapped' {U V Z : List α} {x y : α} (h : SL enc k w0 blk off (U ++ x :: (V ++ y :: Z)) W) {n : Nat} (g : SG enc k w0 blk off n) :
  SL enc k w0 blk off (U ++ y :: (V ++ x :: Z)) ((W.drew.setCells blk (off + (U.length + 1 + V.length) * k) (enc x)).setCells blk (off + U.length * k) (enc y)) := by
 obtain ⟨t, h⟩ := h
 obtain ⟨d0, e0, R⟩ := g.row t
 have := h.swapped R (U.length + 1 + V.length) U.length (by simp; omega) (by simp)
 rw [swap_list'] at this
 have h1 : (U ++ x :: (V ++ y :: Z)).toArray[U.length]! = x := by simp
 have h2 : (U ++ x :: (V ++ y :: Z)).toArray[U.length + 1 + V.length]! = y := by
  have : (U ++ x :: (V ++ y :: Z)) = (U ++ x :: V) ++ y :: Z := by simp
  rw [this]
  have e : U.length + 1 + V.length = (U ++ x :: V).length := by simp; omega
  rw [e]; simp
 rw [h1, h2] at this
 exact ⟨t, this⟩
theorem SL.grown (h : SL enc k w0 blk off l W) : w0.grownBy W (some blk) := by
 obtain ⟨t, h⟩ := h
 have hle : w0.heap.size <= W.heap.size := h.le
 obtain ⟨n, os, rfl⟩ := h
 refine ⟨rfl, rfl, rfl, hle, fun j hj hne => ?_⟩
 have hne' : j ≠ blk := fun e => hne (by rw [e])
 show (_ ++ os : Array Obj)[j]? = _
 rw [Array.getElem?_append_left (by rw [size_putRowK]; exact hj)]
 show (Array.modify _ _ _)[j]? = _
 rw [Array.getElem?_modify, if_neg (fun e => hne' e.symm)]
 rfl
end
end Go.Proofs.YtgmbefolgppmdaaGreatDoor
end
section
namespace Go.Proofs.YtgmbefolgppmdaaGreatDoor
open Go.RowKit Go.Shelf Go.Sort
set_option maxRecDepth 100000
section
variable {α : Type} [Inhabited α] {enc : α -> List Value} {k : Nat} {w0 : World} {blk off : Nat}
set_option maxHeartbeats 4000000 in
theorem swapRange_any {n : Nat} (g : SG enc k w0 blk off n) (aE : ∀ w, (isAgg 31).run Tryz.prog w = .ok true w) (zE : ∀ w, (Go.sizeOf 31).run Tryz.prog w = .ok k w) (hn : n <= 1000000) (cap : Nat) (vf : Value)
  (P X M Y Q : List α) (a b c : Nat) (hl : (P ++ (X ++ (M ++ (Y ++ Q)))).length = n) (hxy : X.length = Y.length) (ha : P.length = a) (hb : P.length + X.length + M.length = b) (hc : X.length = c)
  (W : World) (hs : SL enc k w0 blk off (P ++ (X ++ (M ++ (Y ++ Q)))) W) :
  Calls Tryz.prog 131 #[.slice (some ⟨blk, off, none⟩) n cap, .int .i64 a, .int .i64 b, .int .i64 c, vf] W fun e w' => e = .returned (.tuple #[]) /\ SL enc k w0 blk off (P ++ (Y ++ (M ++ (X ++ Q)))) w' := by
 have mixed : Tryz.prog.follows .mixedOrders = true := by kernel_rfl
 have AA := Lib.hid (And.intro ha (And.intro hb hc))
 have HL := Lib.hid hl
 have HXY := Lib.hid hxy
 have HG := Lib.hid g
 have han : (a : Int) + c <= n := by simp only [List.length_append] at hl; omega
 have hbn : (b : Int) + c <= n := by simp only [List.length_append] at hl; omega
 have hnn : (n : Int) <= 1000000 := by omega
 clear ha hb hc hl hxy hn g
 go_enter Tryz.func131, Tryz.ntmps131
 go_wp2
 go_loopw [10] (fun i wr => ∃ (X1 X2 Y1 Y2 : List α), Hid (X = X1 ++ X2 /\ Y = Y1 ++ Y2 /\ X1.length = Y1.length) /\ i = .int .i64 (X1.length : Nat) /\ SL enc k w0 blk off (P ++ ((Y1 ++ X2) ++ (M ++ ((X1 ++ Y2) ++ Q)))) wr) (fun i _ => c - (intOf i).toNat)
 case atStart => exact ⟨[], X, [], Y, Lib.hid ⟨rfl, rfl, rfl⟩, rfl, hs⟩
 case round =>
  obtain ⟨X1, X2, Y1, Y2, HH, rfl, hs1⟩ := hrel
  rcases X2 with _ | ⟨x, X2⟩
  ·have hlt : ¬ ((X1.length : Int) < (c : Int)) := by
    have h1 := HH.out.1
    have h2 := AA.out.2.2
    rw [<- h2, h1, List.append_nil]; omega
   have HR : Hid (SL enc k w0 blk off (P ++ (Y ++ (M ++ (X ++ Q)))) wr) := by
    obtain ⟨h1, h2, h3⟩ := HH.out
    have h4 := HXY.out
    have hY2 : Y2 = [] := by
     apply List.length_eq_zero_iff.1
     have := congrArg List.length h1
     have := congrArg List.length h2
     simp only [List.length_append, List.length_nil] at *
     omega
    show SL _ _ _ _ _ _ _
    rw [h1, h2, hY2]; rw [hY2] at hs1; simpa using hs1
   clear hs1
   go_wp2
   go_end0
   exact ⟨rfl, HR.out⟩
  ·rcases Y2 with _ | ⟨y, Y2⟩
   ·exfalso
    obtain ⟨h1, h2, h3⟩ := HH.out
    have h4 := HXY.out
    have := congrArg List.length h1
    have := congrArg List.length h2
    simp only [List.length_append, List.length_cons, List.length_nil] at *
    omega
   ·obtain ⟨i, hi⟩ : ∃ i, X1.length = i := ⟨_, rfl⟩
    rw [hi]
    have hs2 : SL enc k w0 blk off ((P ++ Y1) ++ x :: ((X2 ++ (M ++ X1)) ++ y :: (Y2 ++ Q))) wr := by simpa using hs1
    obtain ⟨u, hu⟩ : ∃ u, u = (P ++ Y1).length := ⟨_, rfl⟩
    obtain ⟨v, hv⟩ : ∃ v, v = (P ++ Y1).length + 1 + (X2 ++ (M ++ X1)).length := ⟨_, rfl⟩
    have nums : u = a + i /\ v = b + i /\ i < c /\ ((P ++ Y1) ++ x :: ((X2 ++ (M ++ X1)) ++ y :: (Y2 ++ Q))).length = n := by
     obtain ⟨h1, h2, h3⟩ := HH.out
     obtain ⟨a1, a2, a3⟩ := AA.out
     have h5 := congrArg List.length h1
     have h6 := congrArg List.length h2
     have h7 := HL.out
     simp only [List.length_append, List.length_cons] at *
     omega
    obtain ⟨nu, nv, ni, nl⟩ := nums
    have w1 : IntKind.i64.wrap ((a : Int) + i) = (u : Int) := by rw [IntWalk.i64_in _ (by omega)]; omega
    have w2 : IntKind.i64.wrap ((b : Int) + i) = (v : Int) := by rw [IntWalk.i64_in _ (by omega)]; omega
    have w3 : IntKind.i64.wrap ((i : Int) + 1) = ((i + 1 : Nat) : Int) := by rw [IntWalk.i64_in _ (by omega)]; omega
    have hiz : (i : Int) < (c : Int) := by omega
    have bu : (u : Int) < n := by omega
    have bv : (v : Int) < n := by omega
    have e1 : ((P ++ Y1) ++ x :: ((X2 ++ (M ++ X1)) ++ y :: (Y2 ++ Q)))[u]'(by omega) = x := by simp [hu]
    have e2 : ((P ++ Y1) ++ x :: ((X2 ++ (M ++ X1)) ++ y :: (Y2 ++ Q)))[v]'(by omega) = y := by
     have h0 : (P ++ Y1) ++ x :: ((X2 ++ (M ++ X1)) ++ y :: (Y2 ++ Q)) = ((P ++ Y1) ++ x :: (X2 ++ (M ++ X1))) ++ y :: (Y2 ++ Q) := by simp
     have h1 : v = ((P ++ Y1) ++ x :: (X2 ++ (M ++ X1))).length := by rw [hv]; simp only [List.length_append, List.length_cons]; omega
     simp only [h0, h1]; simp
    have l1 := hs2.drew.load HG.out nl Tryz.prog u (by omega)
    have l2 := hs2.drew.load HG.out nl Tryz.prog v (by omega)
    have s1 := hs2.st1 HG.out nl Tryz.prog u (by omega) y
    have s2 := hs2.st2 HG.out nl Tryz.prog u v (by omega) (by omega) y x
    rw [e1] at l1
    rw [e2] at l2
    have HS : Hid (SL enc k w0 blk off (P ++ ((Y1 ++ [y]) ++ (X2 ++ (M ++ ((X1 ++ [x]) ++ (Y2 ++ Q)))))) ((wr.drew.setCells blk (off + u * k) (enc y)).setCells blk (off + v * k) (enc x))) := by
     have := hs2.swapped HG.out
     rw [<- hv, <- hu] at this
     show SL _ _ _ _ _ _ _
     have e : (P ++ Y1) ++ y :: ((X2 ++ (M ++ X1)) ++ x :: (Y2 ++ Q)) = P ++ ((Y1 ++ [y]) ++ (X2 ++ (M ++ ((X1 ++ [x]) ++ (Y2 ++ Q))))) := by simp
     rwa [<- e]
    have HN := Lib.hid (And.intro nu (And.intro nv (And.intro ni hi)))
    have kx : (enc x).length = k := HG.out.hk x
    have ky : (enc y).length = k := HG.out.hk y
    clear hs1 hs2 nu nv ni nl hu hv e1 e2 hi
    obtain ⟨cx, hcx⟩ : ∃ cx, cx = enc x := ⟨_, rfl⟩
    obtain ⟨cy, hcy⟩ : ∃ cy, cy = enc y := ⟨_, rfl⟩
    rw [<- hcx] at l1 s2 kx
    rw [<- hcy] at l2 s1 s2 ky
    rw [<- hcx, <- hcy] at HS
    clear hcx hcy
    go_wp2_with fail
    go_big_region_o
    all_goals go_wp2
    refine ⟨⟨X1 ++ [x], X2, Y1 ++ [y], Y2, ?_, ?_, ?_⟩, ?_⟩
    ·obtain ⟨h1, h2, h3⟩ := HH.out
     exact ⟨by rw [h1]; simp, by rw [h2]; simp, by simp [h3]⟩
    ·have := HN.out.2.2.2
     rw [List.length_append, this]; rfl
    ·simpa using HS.out
    ·have := HN.out.2.2.1
     simp [intOf]; omega
end
end Go.Proofs.YtgmbefolgppmdaaGreatDoor
end
section
namespace Go.Proofs.YtgmbefolgppmdaaGreatDoor
open Go.RowKit Go.Shelf Go.Sort
set_option maxRecDepth 100000
section
variable {α : Type} [Inhabited α] {enc : α -> List Value} {k : Nat} {w0 : World} {blk off : Nat}
set_option maxHeartbeats 4000000 in
theorem rotate_any {n : Nat} (g : SG enc k w0 blk off n) (aE : ∀ w, (isAgg 31).run Tryz.prog w = .ok true w) (zE : ∀ w, (Go.sizeOf 31).run Tryz.prog w = .ok k w) (hn : n <= 1000000) (cap : Nat) (vf : Value)
  (P X Y Q : List α) (a m b : Nat) (hl : (P ++ (X ++ (Y ++ Q))).length = n) (ha : P.length = a) (hm : P.length + X.length = m) (hb : m + Y.length = b) (hX : 0 < X.length) (hY : 0 < Y.length)
  (W : World) (hs : SL enc k w0 blk off (P ++ (X ++ (Y ++ Q))) W) :
  Calls Tryz.prog 130 #[.slice (some ⟨blk, off, none⟩) n cap, .int .i64 a, .int .i64 m, .int .i64 b, vf] W fun e w' => e = .returned (.tuple #[]) /\ SL enc k w0 blk off (P ++ (Y ++ (X ++ Q))) w' := by
 obtain ⟨T, hT⟩ : ∃ T, P ++ (Y ++ (X ++ Q)) = T := ⟨_, rfl⟩
 have HT := Lib.hid hT
 have HG := Lib.hid g
 have AE := Lib.hid aE
 have ZE := Lib.hid zE
 have HNN := Lib.hid hn
 have nums : X.length = m - a /\ Y.length = b - m /\ b <= n /\ a < m /\ m < b := by simp only [List.length_append] at hl; omega
 obtain ⟨n1, n2, n3, n4, n5⟩ := nums
 obtain ⟨i0, hi0⟩ : ∃ i0, i0 = m - a := ⟨_, rfl⟩
 obtain ⟨j0, hj0⟩ : ∃ j0, j0 = b - m := ⟨_, rfl⟩
 have w1 : IntKind.i64.wrap ((m : Int) - a) = (i0 : Int) := by rw [IntWalk.i64_in _ (by omega)]; omega
 have w2 : IntKind.i64.wrap ((b : Int) - m) = (j0 : Int) := by rw [IntWalk.i64_in _ (by omega)]; omega
 have N0 : Hid (X.length = i0 /\ Y.length = j0 /\ P.length + i0 = m /\ 0 < i0 /\ 0 < j0 /\ m + j0 <= n /\ (P ++ (X ++ (Y ++ Q))).length = n) := by
  show _ /\ _
  refine ⟨by omega, by omega, by omega, by omega, by omega, by omega, hl⟩
 rw [hT]
 clear n1 n2 n3 n4 n5 hi0 hj0 hl ha hm hb hX hY hn g aE zE hT
 go_enter Tryz.func130, Tryz.ntmps130
 go_wp2
 go_loopw [10, 11] (fun vi vj wr => ∃ (i j : Nat) (P X Y Q : List α), vi = .int .i64 i /\ vj = .int .i64 j /\ Hid (X.length = i /\ Y.length = j /\ P.length + i = m /\ 0 < i /\ 0 < j /\ m + j <= n /\ (P ++ (X ++ (Y ++ Q))).length = n) /\ Hid (P ++ (Y ++ (X ++ Q)) = T) /\ SL enc k w0 blk off (P ++ (X ++ (Y ++ Q))) wr) (fun vi vj _ => (intOf vi).toNat + (intOf vj).toNat)
 case atStart => exact ⟨i0, j0, P, X, Y, Q, rfl, rfl, N0, HT, hs⟩
 case round =>
  obtain ⟨i, j, P, X, Y, Q, rfl, rfl, HN, HT, hs⟩ := hrel
  obtain ⟨p, hp⟩ : ∃ p, p = P.length := ⟨_, rfl⟩
  have w3 : IntKind.i64.wrap ((m : Int) - i) = (p : Int) := by have := HN.out; have := HNN.out; rw [IntWalk.i64_in _ (by omega)]; omega
  rcases Nat.lt_trichotomy i j with h | h | h
  ·have hne : ((i : Int) != j) = true := by simp; omega
   have hgt : ¬ ((j : Int) < i) := by omega
   obtain ⟨q, hq⟩ : ∃ q, q = m + j := ⟨_, rfl⟩
   obtain ⟨r, hr⟩ : ∃ r, r = m + j - i := ⟨_, rfl⟩
   obtain ⟨d, hd⟩ : ∃ d, d = j - i := ⟨_, rfl⟩
   have w4 : IntKind.i64.wrap ((m : Int) + j) = (q : Int) := by have := HN.out; have := HNN.out; rw [IntWalk.i64_in _ (by omega)]; omega
   have w5 : IntKind.i64.wrap ((q : Int) - i) = (r : Int) := by have := HN.out; have := HNN.out; rw [IntWalk.i64_in _ (by omega)]; omega
   have w6 : IntKind.i64.wrap ((j : Int) - i) = (d : Int) := by have := HN.out; have := HNN.out; rw [IntWalk.i64_in _ (by omega)]; omega
   have e0 : Y = Y.take d ++ Y.drop d := (List.take_append_drop _ _).symm
   have l1 : (Y.take d).length = d := by have := HN.out; rw [List.length_take]; omega
   have l2 : (Y.drop d).length = i := by have := HN.out; rw [List.length_drop]; omega
   generalize Y.take d = Y1 at *
   generalize Y.drop d = Y2 at *
   have hl := HN.out.2.2.2.2.2.2
   rw [e0, List.append_assoc] at hs hl
   have HE := Lib.hid e0
   have HQ := Lib.hid (And.intro h (And.intro hq (And.intro hr (And.intro hd (And.intro l1 (And.intro l2 hp))))))
   have HC := Lib.hid (swapRange_any HG.out AE.out ZE.out HNN.out cap vf P X Y1 Y2 Q p r i hl (by have := HN.out; omega) hp.symm (by have := HN.out; omega) (by have := HN.out; omega))
   clear w1 w2 h hq hr hd l1 l2 hp e0 hl
   go_wp2_with fail
   refine (HC.out _ hs).mono ?_
   rintro e wq ⟨rfl, hs'⟩
   go_wp2_with fail
   refine ⟨⟨i, d, P, Y2, Y1, X ++ Q, rfl, rfl, ?_, ?_, by simpa using hs'⟩, ?_⟩
   ·obtain ⟨h, hq, hr, hd, l1, l2, hp⟩ := HQ.out
    obtain ⟨a1, a2, a3, a4, a5, a6, a7⟩ := HN.out
    have := HE.out
    show _ /\ _
    refine ⟨l2, l1, a3, a4, by omega, by omega, ?_⟩
    rw [this] at a7
    simp only [List.length_append] at a7 ⊢; omega
   ·have := HE.out
    have h2 := HT.out
    show _ = _
    rw [this] at h2
    rw [<- h2]; simp
   ·have := HQ.out; have := HN.out
    simp only [intOf, Int.toNat_natCast]; omega
  ·have hne : ((i : Int) != j) = false := by simp; omega
   subst h
   have HC := Lib.hid (swapRange_any HG.out AE.out ZE.out HNN.out cap vf P X [] Y Q p m i (by have := HN.out; simpa using this.2.2.2.2.2.2) (by have := HN.out; omega) hp.symm (by have := HN.out; simp; omega) (by have := HN.out; omega))
   clear w1 w2 hp
   go_wp2_with fail
   refine (HC.out _ (by simpa using hs)).mono ?_
   rintro e wq ⟨rfl, hs'⟩
   have HS := Lib.hid hs'
   clear hs'
   go_wp2_with fail
   go_end0
   refine ⟨rfl, ?_⟩
   rw [<- HT.out]
   simpa using HS.out
  ·have hne : ((i : Int) != j) = true := by simp; omega
   have hgt : (j : Int) < i := by omega
   obtain ⟨d, hd⟩ : ∃ d, d = i - j := ⟨_, rfl⟩
   have w6 : IntKind.i64.wrap ((i : Int) - j) = (d : Int) := by have := HN.out; have := HNN.out; rw [IntWalk.i64_in _ (by omega)]; omega
   have e0 : X = X.take j ++ X.drop j := (List.take_append_drop _ _).symm
   have l1 : (X.take j).length = j := by have := HN.out; rw [List.length_take]; omega
   have l2 : (X.drop j).length = d := by have := HN.out; rw [List.length_drop]; omega
   generalize X.take j = X1 at *
   generalize X.drop j = X2 at *
   have hl := HN.out.2.2.2.2.2.2
   rw [e0, List.append_assoc] at hs hl
   have HE := Lib.hid e0
   have HQ := Lib.hid (And.intro h (And.intro hd (And.intro l1 (And.intro l2 hp))))
   have HC := Lib.hid (swapRange_any HG.out AE.out ZE.out HNN.out cap vf P X1 X2 Y Q p m j hl (by have := HN.out; omega) hp.symm (by have := HN.out; omega) (by have := HN.out; omega))
   clear w1 w2 h hd l1 l2 hp e0 hl
   go_wp2_with fail
   refine (HC.out _ hs).mono ?_
   rintro e wq ⟨rfl, hs'⟩
   go_wp2_with fail
   refine ⟨⟨d, j, P ++ Y, X2, X1, Q, rfl, rfl, ?_, ?_, by simpa using hs'⟩, ?_⟩
   ·obtain ⟨h, hd, l1, l2, hp⟩ := HQ.out
    obtain ⟨a1, a2, a3, a4, a5, a6, a7⟩ := HN.out
    have := HE.out
    show _ /\ _
    refine ⟨l2, l1, by rw [List.length_append]; omega, by omega, by omega, by omega, ?_⟩
    rw [this] at a7
    simp only [List.length_append] at a7 ⊢; omega
   ·have := HE.out
    have h2 := HT.out
    show _ = _
    rw [this] at h2
    rw [<- h2]; simp
   ·have := HQ.out; have := HN.out
    simp only [intOf, Int.toNat_natCast]; omega
end
end Go.Proofs.YtgmbefolgppmdaaGreatDoor
end
