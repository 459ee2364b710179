/- label: Escape, Text, Check, Fold. -/
import Derived.Test.YtjhibbjafjhhjaaDoorKRf
import Derived.Test.YtjhibbjafjhhjaaDoorKLabSpec
import Derived.Deep.QuietTactic
import Derived.BigQuiet
section
namespace Go.Proofs.YtjhibbjafjhhjaaDoor
open Go.RowKit Go.Shelf
set_option maxRecDepth 100000
attribute [local go_sem] Oper.semAt_some
def textI (B : Nat) (w : World) (l : List UInt8) (k : Nat) (W : World) : Prop := k <= l.length /\ Bld B B (Lb.text (l.take k)) W /\ Box (B + 1) 9 (S l) W /\ Below B w W /\ B + 2 <= W.heap.size
end Go.Proofs.YtjhibbjafjhhjaaDoor
end
section
namespace Go.Proofs.YtjhibbjafjhhjaaDoor
open Go.RowKit Go.Shelf
set_option maxRecDepth 100000
attribute [local go_sem] Oper.semAt_some
set_option maxHeartbeats 1000000 in
theorem refFold_any (l : List UInt8) (w : World) (hl : l.length <= 1000000) :
  Calls Tryd.prog 36 #[S l] w fun e w' => e = .returned (S (Lb.fold l)) /\ Below w.heap.size w w' := by
 obtain ⟨cap, W1, hrun, hrow, hb1, hs1⟩ := bytes_of l w
 go_enter Tryd.func36, Tryd.ntmps36
 go_wp2
 clear hrun
 go_loopw [4] (fun i wr => ∃ k : Nat, k <= l.length /\ i = .int .i64 k /\ ByteRow w.heap.size (Lb.foldTo l k) wr /\ Below w.heap.size w wr) (fun i _ => l.length - (intOf i).toNat)
 case atStart => exact ⟨0, by omega, rfl, by rw [Lb.foldTo_zero]; exact hrow, hb1⟩
 case round =>
  obtain ⟨k, hk, rfl, hr, hb⟩ := hrel
  by_cases hlt : k < l.length
  ·have hlen := Lb.foldTo_length l k
   have hc := hr.cell k (by omega)
   rw [Lb.foldTo_get l k hlt] at hc
   have hf := hr.frozen k (by omega)
   by_cases h1 : 65 <= l[k].toNat /\ l[k].toNat <= 90
   ·have HS := Lib.hid (Lb.foldTo_succ l k hlt)
    have HN := Lib.hid (Lb.low_nat l[k] h1)
    obtain ⟨h11, h12⟩ : 65 <= (l[k].toNat : Int) /\ (l[k].toNat : Int) <= 90 := by omega
    clear h1
    go_wp2
    have hs := hr.set k (Lb.low l[k])
    rw [HN.out, <- HS.out] at hs
    exact ⟨⟨k + 1, by omega, by go_num, hs, hb.setCell (p := ⟨w.heap.size, k, none⟩) (Nat.le_refl _) _⟩, by simp [intOf]; omega⟩
   ·have HS := Lib.hid (Lb.foldTo_same l k hlt (Lb.low_not _ h1))
    have hH := Lib.hid h1
    clear h1
    go_wp2
    all_goals first
     | (exfalso; have h2 : 65 <= (l[k].toNat : Int) := by assumption
        have h3 : (l[k].toNat : Int) <= 90 := by assumption
        exact hH.out ⟨by omega, by omega⟩)
     | exact ⟨⟨k + 1, by omega, by go_num, by rw [HS.out]; exact hr, hb⟩, by simp [intOf]; omega⟩
  ·obtain rfl : l.length = k := by omega
   have hlen := Lb.foldTo_length l l.length
   rw [Lb.foldTo_all] at hr hlen
   have hcv := conv_row _ _ cap _ hr
   rw [hlen] at hcv
   go_wp2
   go_ret
   exact ⟨rfl, hb⟩
def foldI (B : Nat) (cap : Nat) (w : World) (l : List UInt8) (k : Nat) (W : World) : Prop :=
 k <= l.length /\ ByteRow B (Lb.foldTo l k) W /\ Box (B + 1) 67 (.slice (some ⟨B, 0, none⟩) l.length cap) W /\ Box (B + 2) 9 (S l) W /\ Below B w W /\ B + 3 <= W.heap.size
theorem foldI_put {B cap w l L} (hL : B <= L) (k : Nat) (A : World) (r : Loop) (o : Obj) (h : foldI B cap w l k A) (hr : A.heap[L]? = some (.loop r)) : foldI B cap w l k (A.putObj L o) := by
 obtain ⟨h1, h2, h3, h4, h5, h6⟩ := h
 exact ⟨h1, h2.put hr o, h3.put hr o, h4.put hr o, below_put h5 hL hr (by omega) o, by simpa using h6⟩
set_option maxRecDepth 10000 in
set_option maxHeartbeats 1000000 in
theorem fold_any (l : List UInt8) (w : World) (hl : l.length <= 1000000) :
  Calls Tryd.prog 31 #[S l] w fun e w' => e = .returned (S (Lb.fold l)) /\ Below w.heap.size w w' := by
 obtain ⟨cap, W1, hrun, hrow, hb1, hs1⟩ := bytes_of l w
 refine (callsIn_wide (n := 0)).1 ?_
 refine callsIn_of_wp_marks Tryd.func31 rfl trivial ?_ rfl
 simp only [Tryd.ntmps31, List.size_toArray, List.length_cons, List.length_nil, Nat.reduceAdd, Nat.reduceSub, Array.replicate_succ, Array.replicate_zero, List.push_toArray, List.append_toArray, List.nil_append, List.cons_append]
 gi_wp2_with (gi_at_call 58; refine (callsIn_wide.2 (octets_any l _)).mono ?_; rintro e w' ⟨rfl, rfl⟩)
 clear hrun
 have hx1 := Box.new W1 67 (.slice (some ⟨w.heap.size, 0, none⟩) l.length cap)
 have hx2 := Box.new (W1.alloc (.cells #[.slice (some ⟨w.heap.size, 0, none⟩) l.length cap] 67)) 9 (S l)
 rw [World.size_alloc] at hx2
 rw [hs1] at hx1 hx2
 obtain ⟨W0, hW0, hI0, hs0⟩ : ∃ W0, (W1.alloc (.cells #[.slice (some ⟨w.heap.size, 0, none⟩) l.length cap] 67)).alloc (.cells #[S l] 9) = W0 /\ foldI w.heap.size cap w l 0 W0 /\ W0.heap.size = w.heap.size + 3 :=
  ⟨_, rfl, ⟨by omega, by rw [Lb.foldTo_zero]; exact (hrow.alloc _).alloc _, hx1.alloc _, hx2, (hb1.alloc (by omega) _).alloc (by simp; omega) _, by simp; omega⟩, by simp; omega⟩
 rw [hW0]
 clear hW0 hx1 hx2 hrow hb1 hs1
 refine rf_outer rfl (enters_of Tryd.func71 (by kernel_rfl) rfl) (octets1_iter (w.heap.size + 2) l hl)
  (fun A B h => by subst h; exact KeepsOthers.refl _) sameCell.trans (fun A o => sameCell.put (by omega) A o)
  (fun _ _ _ _ ⟨_, h, _⟩ => by subst h; rfl)
  (foldI w.heap.size cap w l) (fun _ _ => False) (fun _ _ _ h e => by subst e; exact h) (fun _ _ _ h _ => h)
  (foldI_put (by omega)) (fun _ _ _ _ h _ => h)
  (fun r => ?start) (fun r => ?pre) ?round ?done (fun _ _ h => h.elim)
 case start =>
  obtain ⟨h1, h2, h3, h4, h5, h6⟩ := hI0
  exact ⟨h1, (h2.alloc _).alloc _, (h3.alloc _).alloc _, (h4.alloc _).alloc _, (h5.alloc (by omega) _).alloc (by simp; omega) _, by simp; omega⟩
 case pre => exact ((hI0.2.2.2.1.alloc _).alloc _).cell
 case round =>
  rintro n k k' v W hI ⟨h, rfl, rfl⟩
  gi_wp2
  refine rfNext_same (Eq.refl _) hI (foldI_put (by omega)) ?_
  clear hI hI0
  rintro W r rfl hr ⟨h1, h2, h3, h4, h5, h6⟩
  have hlen := Lb.foldTo_length l k
  have hc := h2.cell k (by omega)
  rw [Lb.foldTo_get l k h] at hc
  have hf := h2.frozen k (by omega)
  have hcb := h3.cell
  have hc255 : ((l[k].toNat : Nat) : Int) <= 255 := by have := l[k].toNat_lt; omega
  by_cases hm : 65 <= l[k].toNat /\ l[k].toNat <= 90
  ·have HS := Lib.hid (Lb.foldTo_succ l k h)
   have HN := Lib.hid (Lb.low_nat l[k] hm)
   obtain ⟨h11, h12⟩ : 65 <= (l[k].toNat : Int) /\ (l[k].toNat : Int) <= 90 := by omega
   clear hm
   gi_wp2
   have hs := h2.set k (Lb.low l[k])
   rw [HN.out, <- HS.out] at hs
   rw [show ((l[k].toNat : Int) + 97 - 65) = ((l[k].toNat + 32 : Nat) : Int) by omega]
   have hx := h4.setOther (c := w.heap.size) (o := k) (by omega) (.int .u8 ((l[k].toNat + 32 : Nat) : Int))
   exact ⟨KeepsOthers.setCell _ _ _, h4.same hx, h, hs, h3.setOther (by omega) _, hx, h5.setCell (p := ⟨w.heap.size, k, none⟩) (Nat.le_refl _) _, by simpa [World.setCell] using h6⟩
  ·have HS := Lib.hid (Lb.foldTo_same l k h (Lb.low_not _ hm))
   have hm' : ¬ (65 <= (l[k].toNat : Int)) \/ 90 < (l[k].toNat : Int) := by omega
   clear hm
   have hH := Lib.hid hm'
   clear hm'
   gi_wp2
   all_goals first
    | (exfalso; have h2 : 65 <= (l[k].toNat : Int) := by assumption
       have h3 : (l[k].toNat : Int) <= 90 := by assumption
       have := hH.out; omega)
    | exact ⟨KeepsOthers.refl _, Eq.refl _, h, by rw [HS.out]; exact h2, h3, h4, h5, h6⟩
 case done =>
  rintro k W rfl ⟨h1, h2, h3, h4, h5, h6⟩ hK
  rw [hs0] at hK ⊢
  have hlen := Lb.foldTo_length l l.length
  rw [Lb.foldTo_all] at h2 hlen
  have hcv := conv_row _ _ cap _ h2
  rw [hlen] at hcv
  have hcb := h3.cell
  gi_wp2
  refine ⟨by simp, .inl ⟨_, _, rfl, run_takeDeferred hK, ?_⟩⟩
  exact ⟨_, results_tmp rfl _ _ _, rfl, h5.grown (grownBy_putObj' _ _ _) (by omega) (fun k e => by have := Option.some.inj e; omega)⟩
end Go.Proofs.YtjhibbjafjhhjaaDoor
end
section
namespace Go.Proofs.YtjhibbjafjhhjaaDoor
open Go.RowKit Go.Shelf
set_option maxRecDepth 100000
attribute [local go_sem] Oper.semAt_some
def DigN (s : List UInt8) (n : Nat) : Prop := n <= 3 /\ ∃ h : n <= s.length, (∀ j (hj : j < n), Lb.isDig (s[j]'(by omega))) /\ (n = 3 \/ n = s.length \/ ∃ hn : n < s.length, ¬ Lb.isDig s[n])
def DigP (s : List UInt8) (w : World) (e : Ending) (w' : World) : Prop := ∃ n : Nat, DigN s n /\ e = .returned (.int .i64 n) /\ w = w'
def DigTo (s : List UInt8) (k : Nat) : Prop := k <= 3 /\ ∃ h : k <= s.length, (∀ j (hj : j < k), Lb.isDig (s[j]'(by omega)))
theorem DigTo.zero (s : List UInt8) : DigTo s 0 := ⟨by omega, by omega, fun j hj => by omega⟩
theorem DigTo.succ {s : List UInt8} {k : Nat} (h : DigTo s k) (h3 : k < 3) (hl : k < s.length) (hd : Lb.isDig s[k]) : DigTo s (k + 1) := by
 obtain ⟨h1, h2, h4⟩ := h
 refine ⟨by omega, by omega, fun j hj => ?_⟩
 by_cases e : j = k
 ·subst e; exact hd
 ·exact h4 j (by omega)
theorem DigTo.done {s : List UInt8} {k : Nat} (h : DigTo s k) (hd : ¬ (k < 3 /\ k < s.length)) : DigN s k := by
 obtain ⟨h1, h2, h4⟩ := h
 exact ⟨h1, h2, h4, by omega⟩
def EscP (s : List UInt8) (w : World) (e : Ending) (w' : World) : Prop := e = .returned (.tuple #[.int .u8 (Lb.escd s).1.toNat, .int .i64 (Lb.escd s).2.1, .int .i64 (Lb.escd s).2.2]) /\ Below w.heap.size w w'
theorem EscP.mk {s : List UInt8} {w w' : World} {a : Int} {b c : Int} (x : UInt8) (y : Nat) (z : Int) (h : Lb.escd s = (x, y, z)) (ha : a = x.toNat) (hb : b = y) (hc : c = z) (hw : Below w.heap.size w w') : EscP s w (.returned (.tuple #[.int .u8 a, .int .i64 b, .int .i64 c])) w' := by
 subst ha; subst hb; subst hc; unfold EscP; rw [h]; exact ⟨rfl, hw⟩
end Go.Proofs.YtjhibbjafjhhjaaDoor
end
section
namespace Go.Proofs.YtjhibbjafjhhjaaDoor
open Go.RowKit Go.Shelf
set_option maxRecDepth 100000
attribute [local go_sem] Oper.semAt_some
structure UnM (B : Nat) (w : World) (s bare out : List UInt8) (behind : Nat) (W : World) : Prop where
 bs : Box B 9 (S s) W
 bb : Box (B + 1) 9 (S bare) W
 r0 : Box (B + 2) 9 (S []) W
 r1 : Box (B + 3) 27 (.int .i64 0) W
 out : Bld B (B + 4) out W
 beh : Box (B + 5) 3 (.int .i64 behind) W
 it : Box (B + 6) 9 (S s) W
 below : Below B w W
 size : B + 7 <= W.heap.size
theorem UnM.put {B w s bare out behind L W} (h : UnM B w s bare out behind W) (hL : B <= L) {r : Loop} (hr : W.heap[L]? = some (.loop r)) (o : Obj) : UnM B w s bare out behind (W.putObj L o) :=
 ⟨h.bs.put hr o, h.bb.put hr o, h.r0.put hr o, h.r1.put hr o, builderF_put h.out hr o, h.beh.put hr o, h.it.put hr o, below_put h.below hL hr (by have := h.size; omega) o, by simpa using h.size⟩
theorem UnM.alloc {B w s bare out behind W} (h : UnM B w s bare out behind W) (o : Obj) : UnM B w s bare out behind (W.alloc o) :=
 ⟨h.bs.alloc o, h.bb.alloc o, h.r0.alloc o, h.r1.alloc o, builderF_alloc h.out o, h.beh.alloc o, h.it.alloc o, h.below.alloc (by have := h.size; omega) o, by have := h.size; simp; omega⟩
theorem UnM.call {B w s bare out behind W W'} (h : UnM B w s bare out behind W) (hb : Below W.heap.size W W') : UnM B w s bare out behind W' :=
 ⟨h.bs.below hb, h.bb.below hb, h.r0.below hb, h.r1.below hb, builderF_below h.out hb, h.beh.below hb, h.it.below hb, h.below.trans (hb.mono (by have := h.size; omega)), by have := h.size; have := hb.size; omega⟩
theorem UnM.wrote {B w s bare out out' behind W W'} (h : UnM B w s bare out behind W) (hb : Below B W W') (ho : Lib.OthersKept 5 (some (B + 4)) W W') (hl : Bld B (B + 4) out' W') : UnM B w s bare out' behind W' :=
 ⟨h.bs.others ho (by omega) (by decide), h.bb.others ho (by omega) (by decide), h.r0.others ho (by omega) (by decide), h.r1.others ho (by omega) (by decide), hl, h.beh.others ho (by omega) (by decide), h.it.others ho (by omega) (by decide), h.below.trans hb, by have := h.size; have := hb.size; omega⟩
theorem CellsKept.setOther {W : World} (b : Nat) (_hb : ∃ v t f, W.heap[b]? = some (.cells v t f)) (u : Value) (k : Nat) (hk : k ≠ b) : (W.setCell ⟨b, 0, none⟩ u).heap[k]? = W.heap[k]? := Below.heap_setCell _ _ _ _ hk
def UnI (B : Nat) (w : World) (s bare : List UInt8) (k : Nat) (W : World) : Prop :=
 ∃ out behind, Lb.Ahead bare s out (s.drop behind) /\ k <= behind /\ behind <= s.length /\ out.length <= k /\ UnM B w s bare out behind W
theorem UnI.put {B w s bare L} (hL : B <= L) (k : Nat) (A : World) (r : Loop) (o : Obj) (h : UnI B w s bare k A) (hr : A.heap[L]? = some (.loop r)) : UnI B w s bare k (A.putObj L o) := by
 obtain ⟨out, behind, h1, h2, h3, h4, h5⟩ := h
 exact ⟨out, behind, h1, h2, h3, h4, h5.put hL hr o⟩
def UnX (B : Nat) (w : World) (s bare : List UInt8) (c : Code) (W : World) : Prop :=
 c = .ret /\ ∃ z : Int, Lb.unesc bare s = ([], z) /\ Box (B + 2) 9 (S []) W /\ Box (B + 3) 27 (.int .i64 z) W /\ Below B w W /\ B + 7 <= W.heap.size
theorem UnX.put {B w s bare L} (hL : B <= L) (c : Code) (A : World) (r : Loop) (o : Obj) (h : UnX B w s bare c A) (hr : A.heap[L]? = some (.loop r)) : UnX B w s bare c (A.putObj L o) := by
 obtain ⟨h0, z, h1, h2, h3, h4, h5⟩ := h
 exact ⟨h0, z, h1, h2.put hr o, h3.put hr o, below_put h4 hL hr (by omega) o, by simpa using h5⟩
theorem UnM.exit {B w s bare out behind V} (h : UnM B w s bare out behind V) (z : Int) (hz : Lb.unesc bare s = ([], z)) :
  UnX B w s bare .ret ((V.setCell ⟨B + 2, 0, none⟩ (S [])).setCell ⟨B + 3, 0, none⟩ (.int .i64 z)) :=
 ⟨rfl, z, hz, (h.r0.set _).setOther (by omega) _, (h.r1.setOther (by omega) _).set _, (h.below.setCell (p := ⟨B + 2, 0, none⟩) (show B <= B + 2 by omega) _).setCell (p := ⟨B + 3, 0, none⟩) (show B <= B + 3 by omega) _, by have := h.size; simpa [World.setCell] using this⟩
end Go.Proofs.YtjhibbjafjhhjaaDoor
end
section
namespace Go.Proofs.YtjhibbjafjhhjaaDoor
open Go.RowKit Go.Shelf
set_option maxRecDepth 100000
def cmpL (a b : List UInt8) : Int := Lib.compareBytes (Lb.fold a) (Lb.fold b)
def SpP (w : World) (c : UInt8) (s : List UInt8) (e : Ending) (w' : World) : Prop := e = .returned (.bool (decide (c ∈ s))) /\ w = w'
set_option maxHeartbeats 400000 in
theorem refDigit_any (c : UInt8) (w : World) :
  Calls Tryd.prog 62 #[.int .u8 c.toNat] w fun e w' => e = .returned (.bool (decide (Lb.isDig c))) /\ w = w' := by
 go_enter Tryd.func62, Tryd.ntmps62
 go_wp2
 all_goals go_ret
 ·have h : 48 <= (c.toNat : Int) := by assumption
  exact ⟨ret_bool (by rw [Bool.eq_iff_iff]; simp [Lb.isDig]; omega), rfl⟩
 ·have h : (c.toNat : Int) < 48 := by assumption
  exact ⟨ret_bool (by rw [Bool.eq_iff_iff]; simp; omega), rfl⟩
theorem refDigit_at (c : UInt8) (b : Bool) (hb : decide (Lb.isDig c) = b) (w : World) :
  Calls Tryd.prog 62 #[.int .u8 c.toNat] w fun e w' => e = .returned (.bool b) /\ w = w' := by
 subst hb; exact refDigit_any c w
end Go.Proofs.YtjhibbjafjhhjaaDoor
end
