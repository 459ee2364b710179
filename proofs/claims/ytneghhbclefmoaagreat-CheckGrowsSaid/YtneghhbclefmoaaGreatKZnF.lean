
import Derived.Test.YtneghhbclefmoaaGreatKZnE
section
/- Zones: where a name lies; what encloses it; the star that it has. -/
namespace Go.Proofs.YtneghhbclefmoaaGreat
open Go.RowKit Go.Shelf Go.Sort
set_option maxRecDepth 100000
attribute [local go_sem] Oper.semAt_some
theorem Zn.wher_not {o n : Zn.Nam} {L : List Rc.PRec} (h : Nm.under n o = false) : Zn.wher o L n = 0 := by unfold Zn.wher; rw [if_neg (by rw [h]; exact Bool.false_ne_true)]
theorem Zn.wher_some {o n : Zn.Nam} {L : List Rc.PRec} {k : Nat} (h : Nm.under n o = true) (hc : Zn.cutAt o L n = some k) : Zn.wher o L n = if n.length - k = n.length then 2 else 3 := by unfold Zn.wher; rw [if_pos h, hc]; simp
set_option maxHeartbeats 1000000 in
theorem zWhere_any {w w0 : World} (zo vr vn : Value) (l : List (El w)) (o n : List (List UInt8)) (hb0 : Below w.heap.size w w0) (hv : RecsRd vr (l.map (·.1)) w0) (na : l.length <= 1000) (ho : Rd zo o w0) (no : NB o) (hn : Rd vn n w0) (nn : NB n) :
  Calls Tryz.prog 21 #[.agg #[zo, vr], vn] w0 (Gives (.int .i64 (Zn.wher o (plE l) n)) w0) := by
 obtain ⟨oo, co, rfl, _, _⟩ := ho.form
 obtain ⟨on, cn, rfl, _, _⟩ := hn.form
 obtain ⟨ov, cv, rfl⟩ : ∃ o cap, vr = .slice o l.length cap := by obtain ⟨_, o, cap, h, _⟩ := hv; exact ⟨o, cap, by rw [h, List.length_map]⟩
 obtain ⟨W1, hW1⟩ : ∃ W1, w0.alloc (.cells #[.slice oo o.length co, .slice ov l.length cv] 29) = W1 := ⟨_, rfl⟩
 have hbW : Below w0.heap.size w0 W1 := by subst hW1; exact (Below.refl _ _).alloc (Nat.le_refl _) _
 have b0 : Blk w0.heap.size #[.slice oo o.length co, .slice ov l.length cv] 29 W1 := by subst hW1; exact Blk.new w0 _ _
 have c00 : W1.cell? ⟨w0.heap.size, 0, none⟩ = some _ := b0.cell 0
 have c01 : W1.cell? ⟨w0.heap.size, 1, none⟩ = some _ := b0.cell 1
 have HB := Lib.hid hbW
 have B0 := Lib.hid b0
 have HC := Lib.hid (fun w1 (b1 : Below W1.heap.size W1 w1) => zCutOf_any (w0 := w1) _ _ _ l o n (below5 (below5 hb0 hbW) b1) ((hv.kept hbW).kept b1) na ((ho.below hbW).below b1) no ((hn.below hbW).below b1) nn)
 have HN := Lib.hid (hn.below hbW)
 have HO := Lib.hid (ho.below hbW)
 have NN := Lib.hid nn
 have NO := Lib.hid no
 have ln : (n.length : Int) <= 1000 := by have := nn.1; omega
 have lo : (o.length : Int) <= 1000 := by have := no.1; omega
 clear hv hn ho nn no hb0 hbW b0
 rcases hu : Nm.under n o with _ | _
 ·have HU := Lib.hid hu
  clear hu
  go_enter Tryz.func21, Tryz.ntmps21
  go_wp2_with fail
  refine (nUnder_any _ _ n o _ HN.out HO.out NN.out NO.out).mono ?_
  rintro e w1 ⟨rfl, b1⟩
  rw [HU.out]
  go_wp2_with fail
  go_ret
  exact ⟨by rw [Zn.wher_not HU.out]; rfl, below5 HB.out b1⟩
 ·have HU := Lib.hid hu
  clear hu
  rcases hc : Zn.cutAt o (plE l) n with _ | k
  ·have HK := Lib.hid hc
   have HI := Lib.hid (Zn.cut_none hc)
   clear hc
   go_enter Tryz.func21, Tryz.ntmps21
   go_wp2_with fail
   refine (nUnder_any _ _ n o _ HN.out HO.out NN.out NO.out).mono ?_
   rintro e w1 ⟨rfl, b1⟩
   rw [HU.out]
   have d00 : w1.cell? ⟨w0.heap.size, 0, none⟩ = some _ := (B0.out.below b1).cell 0
   have d01 : w1.cell? ⟨w0.heap.size, 1, none⟩ = some _ := (B0.out.below b1).cell 1
   have hb1 := below5 HB.out b1
   have HC1 := Lib.hid (HC.out _ b1)
   clear b1
   go_wp2_with fail
   refine HC1.out.mono ?_
   rintro e w2 ⟨v2, rfl, r2, b2⟩
   rw [HI.out.1]
   rw [HI.out.2] at r2
   obtain ⟨o2, c2, rfl, _, _⟩ := r2.form
   go_wp2_with fail
   go_ret
   exact ⟨by rw [Zn.wher_none HU.out HK.out]; rfl, below5 hb1 b2⟩
  ·have hw := Zn.wher_some HU.out hc
   have HK := Lib.hid hc
   have HI := Lib.hid (Zn.cut_some hc)
   have hk := Zn.cutAt_some hc
   have hcl : (n.drop k).length = n.length - k := by simp
   clear hc
   obtain ⟨m, hm⟩ : ∃ m, n.length - k = m := ⟨_, rfl⟩
   rw [hm] at hw hcl
   have HW := Lib.hid hw
   have hm1 : m <= n.length := by omega
   clear hw hk hm
   obtain ⟨x, hx⟩ : ∃ x, n.drop k = x := ⟨_, rfl⟩
   rw [hx] at hcl
   have HX := Lib.hid hx
   clear hx
   by_cases hl : m = n.length
   ·have HL := Lib.hid hl
    have hlz : ((m : Int) == (n.length : Int)) = true := by simp [hl]
    have hlz2 : decide (m = n.length) = true := by simp [hl]
    clear hl
    go_enter Tryz.func21, Tryz.ntmps21
    go_wp2_with fail
    refine (nUnder_any _ _ n o _ HN.out HO.out NN.out NO.out).mono ?_
    rintro e w1 ⟨rfl, b1⟩
    rw [HU.out]
    have d00 : w1.cell? ⟨w0.heap.size, 0, none⟩ = some _ := (B0.out.below b1).cell 0
    have d01 : w1.cell? ⟨w0.heap.size, 1, none⟩ = some _ := (B0.out.below b1).cell 1
    have hb1 := below5 HB.out b1
    have HC1 := Lib.hid (HC.out _ b1)
    clear b1
    go_wp2_with fail
    refine HC1.out.mono ?_
    rintro e w2 ⟨v2, rfl, r2, b2⟩
    rw [HI.out.1]
    rw [HI.out.2, HX.out] at r2
    obtain ⟨o2, c2, rfl, _, _⟩ := r2.form
    clear r2
    rw [hcl]
    go_wp2_with fail
    go_ret
    exact ⟨by rw [HW.out, if_pos HL.out]; rfl, below5 hb1 b2⟩
   ·have HL := Lib.hid hl
    have hlz : ((m : Int) == (n.length : Int)) = false := by rw [beq_eq_false_iff_ne]; omega
    have hlz2 : decide (m = n.length) = false := by rw [decide_eq_false_iff_not]; omega
    clear hl
    go_enter Tryz.func21, Tryz.ntmps21
    go_wp2_with fail
    refine (nUnder_any _ _ n o _ HN.out HO.out NN.out NO.out).mono ?_
    rintro e w1 ⟨rfl, b1⟩
    rw [HU.out]
    have d00 : w1.cell? ⟨w0.heap.size, 0, none⟩ = some _ := (B0.out.below b1).cell 0
    have d01 : w1.cell? ⟨w0.heap.size, 1, none⟩ = some _ := (B0.out.below b1).cell 1
    have hb1 := below5 HB.out b1
    have HC1 := Lib.hid (HC.out _ b1)
    clear b1
    go_wp2_with fail
    refine HC1.out.mono ?_
    rintro e w2 ⟨v2, rfl, r2, b2⟩
    rw [HI.out.1]
    rw [HI.out.2, HX.out] at r2
    obtain ⟨o2, c2, rfl, _, _⟩ := r2.form
    clear r2
    rw [hcl]
    go_wp2_with fail
    go_ret
    exact ⟨by rw [HW.out, if_neg HL.out]; rfl, below5 hb1 b2⟩
end Go.Proofs.YtneghhbclefmoaaGreat
end
section
/- Zones: what encloses a name; the star that it has. -/
namespace Go.Proofs.YtneghhbclefmoaaGreat
open Go.RowKit Go.Shelf Go.Sort
set_option maxRecDepth 100000
attribute [local go_sem] Oper.semAt_some
structure EncM (B : Nat) (w ws : World) (zo vr : Value) (n : Zn.Nam) (out : Nat) (W : World) : Prop where
 zb : Blk B #[zo, vr] 29 W
 ob : ∃ o c, Box (B + 2) 23 (.slice o (n.length - out) c) W /\ Rd (.slice o (n.length - out) c) (n.drop out) W
 kp : keepS (fun b => b < ws.heap.size /\ b ≠ B + 2) ws W
 below : Below B w W
 size : ws.heap.size <= W.heap.size
theorem EncM.put {B w ws zo vr n out L} (hL : ws.heap.size <= L) (hB : B <= ws.heap.size) {A : World} {r : Loop} (h : EncM B w ws zo vr n out A) (hr : A.heap[L]? = some (.loop r)) (ob : Obj) : EncM B w ws zo vr n out (A.putObj L ob) := by
 obtain ⟨o, c, h1, h2⟩ := h.ob
 exact ⟨h.zb.put hr ob, ⟨o, c, h1.put hr ob, h2.put hr ob⟩, h.kp.trans (keepS.put (fun e => by omega) A ob), below_put h.below (by omega) hr (by have := h.size; omega) ob, by simpa using h.size⟩
theorem EncM.on {B w ws zo vr n out} {A W : World} (h : EncM B w ws zo vr n out A) (hb : Below A.heap.size A W) (hBA : B <= A.heap.size) : EncM B w ws zo vr n out W := by
 obtain ⟨o, c, h1, h2⟩ := h.ob
 exact ⟨h.zb.below hb, ⟨o, c, h1.below hb, h2.below hb⟩, h.kp.trans (keepS.of_below hb (fun b hb' => by have := h.size; omega)), h.below.trans (hb.mono hBA), by have := hb.size; have := h.size; omega⟩
def EncI (B : Nat) (w ws : World) (zo vr : Value) (o : Zn.Nam) (L : List Rc.PRec) (n : Zn.Nam) (k : Nat) (W : World) : Prop :=
 ∃ out, k <= n.length - o.length + 1 /\ out <= n.length /\ Zn.enclF o L n (n.length - o.length + 1) n.length = Zn.enclF o L n k out /\ EncM B w ws zo vr n out W
theorem EncI.put {B w ws zo vr o L n K} (hL : ws.heap.size <= K) (hB : B <= ws.heap.size) (k : Nat) (A : World) (r : Loop) (ob : Obj) (h : EncI B w ws zo vr o L n k A) (hr : A.heap[K]? = some (.loop r)) : EncI B w ws zo vr o L n k (A.putObj K ob) := by
 obtain ⟨out, h1, h2, h3, h4⟩ := h
 exact ⟨out, h1, h2, h3, h4.put hL hB hr ob⟩
def EncX (B : Nat) (w ws : World) (zo vr : Value) (n : Zn.Nam) (res : Nat) (c : Code) (W : World) : Prop := c = .exit 0 /\ res <= n.length /\ EncM B w ws zo vr n res W
theorem EncX.put {B w ws zo vr n res K} (hL : ws.heap.size <= K) (hB : B <= ws.heap.size) (c : Code) (A : World) (r : Loop) (ob : Obj) (h : EncX B w ws zo vr n res c A) (hr : A.heap[K]? = some (.loop r)) : EncX B w ws zo vr n res c (A.putObj K ob) :=
 ⟨h.1, h.2.1, h.2.2.put hL hB hr ob⟩
end Go.Proofs.YtneghhbclefmoaaGreat
end
section
/- Zones: the star below what encloses a name. -/
namespace Go.Proofs.YtneghhbclefmoaaGreat
open Go.RowKit Go.Shelf Go.Sort
set_option maxRecDepth 100000
def SrcR (o : Zn.Nam) (L : List Rc.PRec) (n : Zn.Nam) (w : World) (e : Ending) (w' : World) : Prop :=
 ∃ v, e = .returned (.tuple #[v, .bool (Zn.isSrc o L n)]) /\ Rd v (Zn.src o L n) w' /\ Below w.heap.size w w'
end Go.Proofs.YtneghhbclefmoaaGreat
end
