/- What is wrong with a zone: hidden, covered. -/
import Derived.Test.YtneghhbclefmoaaGreatKCkA
import Derived.Test.YtneghhbclefmoaaGreatKReP
import Derived.Test.YtneghhbclefmoaaGreatKReg
import Derived.Test.YtneghhbclefmoaaGreatKGr
import Derived.Test.YtneghhbclefmoaaGreatKSgG
section
namespace Go.Proofs.YtneghhbclefmoaaGreat
open Go.RowKit Go.Shelf Go.Sort
set_option maxRecDepth 100000
attribute [local go_sem] Oper.semAt_some
namespace Ck
def addr (t : Int) : Bool := (t == 1) || (t == 28)
def hidden (t w : Int) : Bool := if w == 2 then !addr t && !(t == 2) else if w == 3 then !addr t else false
def covF (L : List Rc.PRec) (n : List (List UInt8)) : Nat -> Bool
 | 0 => false
 | k + 1 => if decide (0 < k) && Zn.has L (n.drop k) 39 then true else covF L n k
def cov (o : List (List UInt8)) (L : List Rc.PRec) (n : List (List UInt8)) : Bool := covF L n (n.length - o.length + 1)
theorem covF_hit {L : List Rc.PRec} {n : List (List UInt8)} {k : Nat} (h1 : 0 < k) (h2 : Zn.has L (n.drop k) 39 = true) : covF L n (k + 1) = true := by
 rw [covF, if_pos (by simp only [Bool.and_eq_true, decide_eq_true_eq]; exact ⟨h1, h2⟩)]
theorem covF_top {L : List Rc.PRec} {n : List (List UInt8)} {k : Nat} (h1 : ¬ 0 < k) : covF L n (k + 1) = covF L n k := by
 rw [covF, if_neg (by simp only [Bool.and_eq_true, decide_eq_true_eq]; exact fun h => h1 h.1)]
theorem covF_miss {L : List Rc.PRec} {n : List (List UInt8)} {k : Nat} (h2 : Zn.has L (n.drop k) 39 = false) : covF L n (k + 1) = covF L n k := by
 rw [covF, if_neg (by simp only [Bool.and_eq_true, decide_eq_true_eq]; exact fun h => by rw [h2] at h; cases h.2)]
end Ck
set_option maxHeartbeats 2000000 in
theorem ckHidden_any (po : Option Addr) (no qo : Nat) (t : Int) (tt : Nat) (od : Option Addr) (n cd : Nat) (wh : Int) (w : World) :
  Calls Tryz.prog 130 #[.agg #[.slice po no qo, .int .i64 t, .int .u32 (tt : Int), .slice od n cd], .int .i64 wh] w (Gives (.bool (Ck.hidden t wh)) w) := by
 obtain ⟨W1, hW1⟩ : ∃ W1, w.alloc (.cells #[.slice po no qo, .int .i64 t, .int .u32 (tt : Int), .slice od n cd] 116) = W1 := ⟨_, rfl⟩
 have HB : Hid (Below w.heap.size w W1) := by show Below _ _ _; rw [<- hW1]; exact (Below.refl _ _).alloc (Nat.le_refl _) _
 have s1 : W1.cell? ⟨w.heap.size, 1, none⟩ = some (.int .i64 t) := by rw [<- hW1]; exact (Blk.new w _ _).cell 1
 have key : ∀ b1 b2 b3 b4 b5 : Bool, (t == 1) = b1 -> (t == 28) = b2 -> (t == 2) = b3 -> (wh == 2) = b4 -> (wh == 3) = b5 -> Calls Tryz.prog 130 #[.agg #[.slice po no qo, .int .i64 t, .int .u32 (tt : Int), .slice od n cd], .int .i64 wh] w (Gives (.bool (Ck.hidden t wh)) w) := by
  intro b1 b2 b3 b4 b5 e1 e2 e3 e4 e5
  have hr : Ck.hidden t wh = if b4 then !(b1 || b2) && !b3 else if b5 then !(b1 || b2) else false := by unfold Ck.hidden Ck.addr; rw [e1, e2, e3, e4, e5]
  rw [hr]
  cases b1 <;> cases b2 <;> cases b3 <;> cases b4 <;> cases b5
  all_goals
   first | (have e6 : (t != 2) = false := by rw [bne, e3]; rfl) | (have e6 : (t != 2) = true := by rw [bne, e3]; rfl)
   refine (callsIn_wide (n := 0)).1 ?_
   refine callsIn_of_wp Tryz.func130 rfl trivial ?_ rfl
   simp only [Tryz.ntmps130, List.size_toArray, List.length_cons, List.length_nil, Nat.reduceAdd, Nat.reduceSub, Array.replicate_succ, Array.replicate_zero, List.push_toArray, List.append_toArray, List.nil_append, List.cons_append]
   gi_wp2_with fail
   go_ret
   exact ⟨rfl, HB.out⟩
 exact key _ _ _ _ _ rfl rfl rfl rfl rfl
structure CovM (B : Nat) (w ws : World) (zo vr vn : Value) (W : World) : Prop where
 zb : Blk B #[zo, vr] 29 W
 nb : Box (B + 1) 23 vn W
 r0 : Box (B + 2) 4 (.bool false) W
 kp : keepB ws.heap.size ws W
 below : Below B w W
 size : ws.heap.size <= W.heap.size
theorem CovM.put {B w ws zo vr vn L} (hL : ws.heap.size <= L) (hB : B <= ws.heap.size) {A : World} {r : Loop} (h : CovM B w ws zo vr vn A) (hr : A.heap[L]? = some (.loop r)) (o : Obj) : CovM B w ws zo vr vn (A.putObj L o) :=
 ⟨h.zb.put hr o, h.nb.put hr o, h.r0.put hr o, h.kp.trans (keepB.put hL A o), below_put h.below (by omega) hr (by have := h.size; omega) o, by simpa using h.size⟩
theorem CovM.on {B w ws zo vr vn} {A W : World} (h : CovM B w ws zo vr vn A) (hb : Below A.heap.size A W) (hBA : B <= A.heap.size) : CovM B w ws zo vr vn W :=
 ⟨h.zb.below hb, h.nb.below hb, h.r0.below hb, h.kp.trans ((keepB.of_below hb).mono h.size), h.below.trans (hb.mono hBA), by have := hb.size; have := h.size; omega⟩
def CovX (B : Nat) (w ws : World) (res : Bool) (c : Code) (W : World) : Prop :=
 c = .ret /\ res = true /\ Box (B + 2) 4 (.bool true) W /\ Below B w W /\ ws.heap.size <= W.heap.size
theorem CovX.put {B w ws res L} (hL : ws.heap.size <= L) (hB : B <= ws.heap.size) {c : Code} {A : World} {r : Loop} (h : CovX B w ws res c A) (hr : A.heap[L]? = some (.loop r)) (o : Obj) : CovX B w ws res c (A.putObj L o) := by
 obtain ⟨h0, h1, h2, h3, h4⟩ := h
 exact ⟨h0, h1, h2.put hr o, below_put h3 (by omega) hr (by omega) o, by simpa using h4⟩
def CovI (B : Nat) (w ws : World) (zo vr vn : Value) (L : List Rc.PRec) (n : Zn.Nam) (K : Nat) (k : Nat) (W : World) : Prop :=
 k <= K /\ Ck.covF L n K = Ck.covF L n k /\ CovM B w ws zo vr vn W
theorem CovI.put {B w ws zo vr vn L n K H} (hL : ws.heap.size <= H) (hB : B <= ws.heap.size) (k : Nat) (A : World) (r : Loop) (ob : Obj) (h : CovI B w ws zo vr vn L n K k A) (hr : A.heap[H]? = some (.loop r)) : CovI B w ws zo vr vn L n K k (A.putObj H ob) :=
 ⟨h.1, h.2.1, h.2.2.put hL hB hr ob⟩
set_option maxHeartbeats 2000000 in
theorem ckCovered_any {w w0 : World} (zo vr vn : Value) (l : List (El w)) (o n : List (List UInt8)) (hb0 : Below w.heap.size w w0) (hv : RecsRd vr (l.map (·.1)) w0) (na : l.length <= 1000) (ho : Rd zo o w0) (no : NB o) (hn : Rd vn n w0) (nn : NB n) (hle : o.length <= n.length) :
  Calls Tryz.prog 131 #[.agg #[zo, vr], vn] w0 (Gives (.bool (Ck.cov o (plE l) n)) w0) := by
 obtain ⟨oo, co, rfl, _, _⟩ := ho.form
 obtain ⟨on, cn, rfl, _, _⟩ := hn.form
 obtain ⟨ov, cv, rfl⟩ : ∃ o cap, vr = .slice o l.length cap := by obtain ⟨_, o, cap, h, _⟩ := hv; exact ⟨o, cap, by rw [h, List.length_map]⟩
 obtain ⟨W3, hW3⟩ : ∃ W3, ((w0.alloc (.cells #[.slice oo o.length co, .slice ov l.length cv] 29)).alloc (.cells #[.slice on n.length cn] 23)).alloc (.cells #[.bool false] 4) = W3 := ⟨_, rfl⟩
 have hbW : Below w0.heap.size w0 W3 := by
  subst hW3; exact (((Below.refl _ _).alloc (Nat.le_refl _) _).alloc (by simp) _).alloc (by simp; omega) _
 have b0 : Blk w0.heap.size #[.slice oo o.length co, .slice ov l.length cv] 29 W3 := by
  subst hW3; exact ((Blk.new w0 _ _).alloc _).alloc _
 have b1 : Box (w0.heap.size + 1) 23 (.slice on n.length cn) W3 := by
  subst hW3
  have := (Box.new (w0.alloc (.cells #[.slice oo o.length co, .slice ov l.length cv] 29)) 23 (.slice on n.length cn)).alloc (.cells #[.bool false] 4)
  rwa [World.size_alloc] at this
 have b2 : Box (w0.heap.size + 2) 4 (.bool false) W3 := by
  subst hW3
  have := Box.new ((w0.alloc (.cells #[.slice oo o.length co, .slice ov l.length cv] 29)).alloc (.cells #[.slice on n.length cn] 23)) 4 (.bool false)
  rwa [World.size_alloc, World.size_alloc] at this
 have e12 : w0.heap.size + 1 + 1 = w0.heap.size + 2 := rfl
 have s3 : W3.heap.size = w0.heap.size + 3 := by subst hW3; simp
 have HS3 := Lib.hid s3
 have c00 : W3.cell? ⟨w0.heap.size, 0, none⟩ = some _ := b0.cell 0
 have c01 : W3.cell? ⟨w0.heap.size, 1, none⟩ = some _ := b0.cell 1
 have c10 : W3.cell? ⟨w0.heap.size + 1, 0, none⟩ = some _ := b1.cell
 have HB := Lib.hid hbW
 have B0 := Lib.hid b0
 have B1 := Lib.hid b1
 have B2 := Lib.hid b2
 have HN0 := Lib.hid hn
 have HV := Lib.hid hv
 have HB0 := Lib.hid hb0
 have NN := Lib.hid nn
 have ln : (n.length : Int) <= 1000 := by have := nn.1; omega
 have lo : (o.length : Int) <= 1000 := by have := no.1; omega
 clear hv hn ho nn no hb0 hbW b0 b1 b2 s3
 refine (callsIn_wide (n := 0)).1 ?_
 refine callsIn_of_wp_marks Tryz.func131 rfl trivial ?_ rfl
 simp only [Tryz.ntmps131, List.size_toArray, List.length_cons, List.length_nil, Nat.reduceAdd, Nat.reduceSub, Array.replicate_succ, Array.replicate_zero, List.push_toArray, List.append_toArray, List.nil_append, List.cons_append]
 gi_wp2_with (gi_at_call 52; refine (callsIn_wide.2 (down_any _ _ _ _ _ _)).mono ?_; rintro e ws ⟨rfl, hws⟩)
 have hb2 : Below W3.heap.size W3 ws := by rw [<- hws]; exact ((Below.refl _ _).alloc (Nat.le_refl _) _).alloc (by simp) _
 have ss : ws.heap.size = W3.heap.size + 2 := by rw [<- hws]; simp
 have hcn : ws.cell? ⟨W3.heap.size + 1, 0, none⟩ = some (.slice on n.length cn) := by
  rw [<- hws]
  have := (Blk.new (W3.alloc (.cells #[.slice oo o.length co, .slice ov l.length cv] 29)) #[.slice on n.length cn] 23).cell 0
  rwa [World.size_alloc] at this
 have hcz : ws.cell? ⟨W3.heap.size, 0, none⟩ = some (.slice oo o.length co) := by rw [<- hws]; exact ((Blk.new W3 _ _).alloc _).cell 0
 have hs1 : w0.heap.size + 3 <= ws.heap.size := by have := HS3.out; omega
 have hM0 : CovM w0.heap.size w0 ws (.slice oo o.length co) (.slice ov l.length cv) (.slice on n.length cn) ws := ⟨B0.out.below hb2, B1.out.below hb2, B2.out.below hb2, keepB.refl _ _, below5 HB.out hb2, Nat.le_refl _⟩
 have HNS := Lib.hid HN0.out
 have hnl : n.length <= 1000 := NN.out.1
 clear hws hb2 c00 c01 c10 hW3
 refine rf_outer rfl (enters_of Tryz.func104 (by kernel_rfl) rfl) (down1_iter (fun b => b < ws.heap.size) w0 ws (W3.heap.size + 1) W3.heap.size (by show _ < _; omega) (by show _ < _; omega) on oo cn co n o hcn hcz HNS.out hnl hle)
  (fun A B h => by subst h; exact KeepsOthers.refl _) (fun A B C h k => keepB.trans h k) (fun A ob => keepB.put (by omega) A ob)
  (fun _ _ _ _ h => by obtain ⟨_, _, _, _, h, _⟩ := h; subst h; rfl)
  (CovI w0.heap.size w0 ws (.slice oo o.length co) (.slice ov l.length cv) (.slice on n.length cn) (plE l) n (n.length - o.length + 1))
  (CovX w0.heap.size w0 ws (Ck.covF (plE l) n (n.length - o.length + 1)))
  (fun _ _ _ h e => by subst e; exact h) (fun _ _ _ h e => by subst e; exact h)
  (CovI.put (by omega) (by omega)) (fun _ _ _ ob h hr => h.put (by omega) (by omega) hr ob)
  (fun r => ⟨Nat.le_refl _, rfl, ?start⟩) (fun r => ?pre) ?round ?done ?stop
 case start => exact hM0.on (((Below.refl _ _).alloc (Nat.le_refl _) _).alloc (by simp) _) (by omega)
 case pre => exact keepB.of_below (((Below.refl _ _).alloc (Nat.le_refl _) _).alloc (by simp) _)
 case round =>
  rintro lp k k' v W hI ⟨rfl, hk', ox, cx, rfl, hx⟩
  gi_wp2
  refine rfNext_same (keepB.refl _ _) hI (CovI.put (K := n.length - o.length + 1) (H := ws.heap.size + 1) (by omega) (by omega)) ?_
  clear hI hM0
  rintro W r rfl hr ⟨h1, h2, hM⟩
  have hxl : (n.drop k').length = n.length - k' := by simp
  obtain ⟨m, hm⟩ : ∃ m, n.length - k' = m := ⟨_, rfl⟩
  have hmk : m = n.length - k' := hm.symm
  rw [hm] at hx hxl ⊢
  obtain ⟨x, hxd⟩ : ∃ x, n.drop k' = x := ⟨_, rfl⟩
  have NX := Lib.hid (show NB x by rw [<- hxd]; exact NN.out.drop k')
  have HX := Lib.hid (show Rd (.slice ox m cx) x W by rw [<- hxd]; exact hx.below hM.below)
  have HM := Lib.hid hM
  have H2 := Lib.hid h2
  have HXD := Lib.hid hxd
  have HMK := Lib.hid hmk
  have hm1 : (m : Int) <= 1000 := by omega
  have c00 : W.cell? ⟨w0.heap.size, 0, none⟩ = some _ := hM.zb.cell 0
  have c01 : W.cell? ⟨w0.heap.size, 1, none⟩ = some _ := hM.zb.cell 1
  have c10 : W.cell? ⟨w0.heap.size + 1, 0, none⟩ = some _ := hM.nb.cell
  have hsz := hM.size
  rw [hxd] at hxl
  clear hM h2 hx hr hm hmk
  by_cases hgt : m < n.length
  ·have hgz : (m : Int) < (n.length : Int) := by omega
   have hgd : decide ((m : Int) < (n.length : Int)) = true := by simp [hgt]
   have hgd2 : decide (m < n.length) = true := by simp [hgt]
   have HC := Lib.hid (zHas_any (.slice oo o.length co) (.slice ov l.length cv) (.slice ox m cx) l x 39 (below5 HB0.out HM.out.below) (HV.out.kept HM.out.below) na HX.out NX.out)
   have hk0 : 0 < k' := by have := HMK.out; omega
   rcases hh : Zn.has (plE l) x 39 with _ | _
   ·have HH := Lib.hid hh
    clear hh
    gi_wp2_with fail
    refine (CallsIn.inRound _ (callsIn_wide.2 HC.out)).mono ?_
    rintro e W2 ⟨rfl, bb⟩
    rw [HH.out]
    gi_wp2_with fail
    refine ⟨below_keepsOthers bb, (keepB.of_below bb).mono hsz, by omega, ?_, HM.out.on bb (by omega)⟩
    rw [H2.out, Ck.covF_miss (by rw [HXD.out]; exact HH.out)]
   ·have HH := Lib.hid hh
    clear hh
    gi_wp2_with fail
    refine (CallsIn.inRound _ (callsIn_wide.2 HC.out)).mono ?_
    rintro e W2 ⟨rfl, bb⟩
    rw [HH.out]
    have hM5 := HM.out.on bb (by omega)
    have hx1 := hM5.r0.frozen
    have hy1 := hM5.r0.cell
    gi_wp2_with fail
    refine ⟨(below_keepsOthers bb).trans (KeepsOthers.setCell _ _ _), rfl, ?_, ?_, ?_, ?_⟩
    ·rw [H2.out]; exact Ck.covF_hit hk0 (by rw [HXD.out]; exact HH.out)
    ·exact hM5.r0.set (.bool true)
    ·exact hM5.below.setCell (p := ⟨w0.heap.size + 2, 0, none⟩) (by simp) _
    ·simpa [World.setCell] using hM5.size
  ·have hgz : ¬ (m : Int) < (n.length : Int) := by omega
   have hgd : decide ((m : Int) < (n.length : Int)) = false := by simp; omega
   have hgd2 : decide (m < n.length) = false := by simp; omega
   have hk0 : ¬ 0 < k' := by have := HMK.out; omega
   gi_wp2_with fail
   refine ⟨KeepsOthers.refl _, keepB.refl _ _, by omega, ?_, HM.out⟩
   rw [H2.out, Ck.covF_top hk0]
 case done =>
  rintro k W rfl ⟨_, h2, hM⟩ hKd
  have hx1 := hM.r0.frozen
  have hy1 := hM.r0.cell
  have H2 := Lib.hid h2
  have HM := Lib.hid hM
  have HKD := Lib.hid hKd
  clear h2 hM hM0 hKd
  gi_wp2_with fail
  have hM := HM.out
  have hK2 : (W.setCell ⟨w0.heap.size + 2, 0, none⟩ (.bool false)).heap[ws.heap.size]? = some (.deferred (some [])) := (Below.heap_setCell _ _ _ _ (by simp; omega)).trans HKD.out
  have g1 := ((hM.r0.set (.bool false)).putD hK2 (.deferred none)).cell
  refine leaveD (v := .bool false) rfl hK2 (by simp [results, Tryz.results131, go_sem, g1]) ?_
  have hc : Ck.cov o (plE l) n = false := by unfold Ck.cov; rw [H2.out]; rfl
  exact ⟨by rw [hc], below_putD (hM.below.setCell (p := ⟨w0.heap.size + 2, 0, none⟩) (by simp) _) (by omega) (by have := hM.size; simp [World.setCell]; omega) _⟩
 case stop =>
  rintro c W ⟨rfl, h1, h2, h3, h4⟩ hKd
  have g1 := (h2.putD hKd (.deferred none)).cell
  have G := Lib.hid g1
  have HKD := Lib.hid hKd
  have H3 := Lib.hid h3
  have H1 := Lib.hid h1
  clear h1 h2 h3 g1 hKd hM0
  gi_wp2_with fail
  have g1 := G.out
  refine leaveD (v := .bool true) rfl HKD.out (by simp [results, Tryz.results131, go_sem, g1]) ?_
  exact ⟨by show _ = Ending.returned (.bool (Ck.cov o (plE l) n)); unfold Ck.cov; rw [H1.out], below_putD H3.out (by omega) (by omega) _⟩
end Go.Proofs.YtneghhbclefmoaaGreat
end
section
namespace Go.Proofs.YtneghhbclefmoaaGreat
open Go.RowKit Go.Shelf Go.Sort
set_option maxRecDepth 100000
namespace Ck
def rcP (o : Zn.Nam) (L : List Rc.PRec) (n : Zn.Nam) (j : Nat) : Bool := (Zn.wher o L (n.drop (j + 1)) == 1) && Zn.has L (n.drop (j + 1)) 39
def rcov (o : Zn.Nam) (L : List Rc.PRec) (n : Zn.Nam) : Bool := (List.range n.length).any (rcP o L n)
end Ck
set_option maxHeartbeats 1000000 in
theorem rCovered_any {w w0 : World} (vo vr vn : Value) (l : List (El w)) (o n : List (List UInt8)) (hb0 : Below w.heap.size w w0) (hv : RecsRd vr (l.map (·.1)) w0) (na : l.length <= 1000) (ho : Rd vo o w0) (no : NB o) (hn : Rd vn n w0) (nn : NB n) :
  Calls Tryz.prog 93 #[.agg #[vo, vr], vn] w0 (Gives (.bool (Ck.rcov o (plE l) n)) w0) := by
 obtain ⟨on, cn, rfl, hcn, _⟩ := hn.form
 obtain ⟨oo, co, rfl, _, _⟩ := ho.form
 obtain ⟨ov, cv, rfl⟩ : ∃ o cap, vr = .slice o l.length cap := by obtain ⟨_, o, cap, h, _⟩ := hv; exact ⟨o, cap, by rw [h, List.length_map]⟩
 obtain ⟨W1, hW1⟩ : ∃ W1, w0.alloc (.cells #[.slice oo o.length co, .slice ov l.length cv] 33) = W1 := ⟨_, rfl⟩
 obtain ⟨hb1, hbk⟩ := zBox hW1
 have HW1 := Lib.hid hW1
 have HB1 := Lib.hid hb1
 have HBK := Lib.hid hbk
 have HN := Lib.hid hn
 have HWH : Hid (∀ W', Below W1.heap.size W1 W' -> ∀ (v : Value) (m : List (List UInt8)), Rd v m W' -> NB m -> Calls Tryz.prog 22 #[.agg #[.slice oo o.length co, .slice ov l.length cv], v] W' (Gives (.int .i64 (Zn.wher o (plE l) m)) W')) := fun W' hW v m hm nm =>
  rWhere_any _ _ v l o m (below5 hb0 (below5 hb1 hW)) (hv.kept (below5 hb1 hW)) na (ho.below (below5 hb1 hW)) no hm nm
 have HHA : Hid (∀ W', Below W1.heap.size W1 W' -> ∀ (v : Value) (m : List (List UInt8)), Rd v m W' -> NB m -> Calls Tryz.prog 57 #[.agg #[.slice oo o.length co, .slice ov l.length cv], v, .int .i64 39] W' (Gives (.bool (Zn.has (plE l) m 39)) W')) := fun W' hW v m hm nm =>
  rHas_any oo o.length co _ v l m 39 (below5 hb0 (below5 hb1 hW)) (hv.kept (below5 hb1 hW)) na hm nm
 have NN := Lib.hid nn
 have ln : n.length <= 1000 := nn.1
 clear hv hb0 hn nn hb1 hbk ho no na hW1
 refine (callsIn_wide (n := 0)).1 ?_
 refine callsIn_of_wp Tryz.func93 rfl trivial ?_ rfl
 simp only [Tryz.ntmps93, List.size_toArray, List.length_cons, List.length_nil, Nat.reduceAdd, Nat.reduceSub, Array.replicate_succ, Array.replicate_zero, List.push_toArray, List.append_toArray, List.nil_append, List.cons_append]
 gi_wp2_with fail
 rw [HW1.out]
 clear HW1
 gi_loopw [5] (fun vi W => ∃ k : Nat, 1 <= k /\ k <= n.length + 1 /\ vi = .int .i64 k /\ Hid (∀ j, j + 1 < k -> Ck.rcP o (plE l) n j = false) /\ Below W1.heap.size W1 W) (fun vi _ => n.length + 1 - (intOf vi).toNat)
 case atStart => exact ⟨1, by omega, by omega, rfl, fun j h => by omega, Below.refl _ _⟩
 case round =>
  obtain ⟨k, hk1, hk, rfl, HF, hb⟩ := hrel
  by_cases hlt : k <= n.length
  ·have hiz : (k : Int) <= (n.length : Int) := by omega
   obtain ⟨i, hi⟩ : ∃ i, k = i + 1 := ⟨k - 1, by omega⟩
   obtain ⟨wz, hwz⟩ : ∃ z, Zn.wher o (plE l) (n.drop k) = z := ⟨_, rfl⟩
   obtain ⟨z, hz⟩ : ∃ z, Zn.has (plE l) (n.drop k) 39 = z := ⟨_, rfl⟩
   obtain ⟨b, hbw⟩ : ∃ b, (wz == 1) = b := ⟨_, rfl⟩
   have HCS : Hid (∀ W', Below W1.heap.size W1 W' -> Cs [(⟨w0.heap.size, 0, none⟩, .slice oo o.length co), (⟨w0.heap.size, 1, none⟩, .slice ov l.length cv)] W') := fun W' hW => ⟨(HBK.out.below hW).cell 0, (HBK.out.below hW).cell 1, trivial⟩
   obtain ⟨ot, hot⟩ : ∃ ot, (if cn = k then on else on.map (·.add k)) = ot := ⟨_, rfl⟩
   have HRD : Hid (∀ W', Below W1.heap.size W1 W' -> Rd (.slice ot (n.length - k) (cn - k)) (n.drop k) W') := fun W' hW => by
    have h := HN.out.below (below5 HB1.out hW)
    rw [<- hot]
    by_cases hc : cn = k
    ·rw [if_pos hc]
     have h2 := h.tail0 k hlt hc
     rw [show cn - k = 0 by omega]; exact h2
    ·rw [if_neg hc]; exact h.tail k hlt
   have HW2 : Hid (∀ W', Below W1.heap.size W1 W' -> Calls Tryz.prog 22 #[.agg #[.slice oo o.length co, .slice ov l.length cv], .slice ot (n.length - k) (cn - k)] W' (Gives (.int .i64 wz) W')) := fun W' hW => by
    have h := HWH.out W' hW _ (n.drop k) (HRD.out W' hW) (NN.out.drop k)
    rw [hwz] at h; exact h
   have HH2 : Hid (∀ W', Below W1.heap.size W1 W' -> Calls Tryz.prog 57 #[.agg #[.slice oo o.length co, .slice ov l.length cv], .slice ot (n.length - k) (cn - k), .int .i64 39] W' (Gives (.bool z) W')) := fun W' hW => by
    have h := HHA.out W' hW _ (n.drop k) (HRD.out W' hW) (NN.out.drop k)
    rw [hz] at h; exact h
   have HP : Hid (Ck.rcP o (plE l) n i = (b && z)) := by show _ = _; unfold Ck.rcP; rw [<- hi, hwz, hz, hbw]
   have HI := Lib.hid hi
   have HNX : Hid ((b && z) = false -> ∀ j, j + 1 < k + 1 -> Ck.rcP o (plE l) n j = false) := fun hbz j hj => by
    by_cases hjl : j + 1 < k
    ·exact HF.out j hjl
    ·have : j = i := by have := HI.out; omega
     rw [this, HP.out]; exact hbz
   have HB := Lib.hid hb
   clear hb hz hwz hi
   cases b with
   | false =>
    gi_wp2_with fail
    refine drawnH (List.range 13) (Cs [(⟨w0.heap.size, 0, none⟩, .slice oo o.length co), (⟨w0.heap.size, 1, none⟩, .slice ov l.length cv)]) 13 rfl (by kernel_rfl) ?_
    intro wa hwa
    have HBA : Hid (Below W1.heap.size W1 wa) := by subst hwa; exact HB.out.drew
    have hS := HCS.out wa HBA.out
    clear hwa
    refine tH 0 ?qav0 hS (fun w1 ⟨x0, x1, _⟩ => ?qay0) ?_
    case qay0 => go_simp; try rfl
    refine tH 1 ?qav1 hS (fun w1 ⟨x0, x1, _⟩ => ?qay1) ?_
    case qay1 => go_simp; try rfl
    refine tH 2 ?qav2 hS (fun w1 ⟨x0, x1, _⟩ => ?qay2) ?_
    case qay2 => go_simp; try rfl
    refine tH 3 ?qav3 hS (fun w1 ⟨x0, x1, _⟩ => ?qay3) ?_
    case qay3 => go_simp; try rfl
    simp only [Act.put, List.setIfInBounds_toArray, List.set_cons_succ, List.set_cons_zero]
    try rw [hot]
    refine oneH 4 (by rfl) (by kernel_rfl) (fun K hK => ?_)
    gi_wp2_with (gi_at_call 22; refine (callsIn_wide.2 (HW2.out wa HBA.out)).mono ?_; rintro e9 wb ⟨rfl, b9⟩)
    have HBB := Lib.hid (below5 HBA.out b9)
    refine hK _ _ (fun _ => HCS.out wb HBB.out) ?_
    clear hK K b9
    replace hS := HCS.out wb HBB.out
    refine tH 5 ?qbv5 hS (fun w1 ⟨x0, x1, _⟩ => ?qby5) ?_
    case qby5 => go_simp; try rfl
    refine tH 6 ?qbv6 hS (fun w1 ⟨x0, x1, _⟩ => ?qby6) ?_
    case qby6 => go_simp; try rfl
    simp only [Act.put, List.setIfInBounds_toArray, List.set_cons_succ, List.set_cons_zero]
    refine tU 7 hS ?_
    refine tU 8 hS ?_
    refine tU 9 hS ?_
    refine tU 10 hS ?_
    refine tU 11 hS ?_
    simp only [Act.put, List.setIfInBounds_toArray, List.set_cons_succ, List.set_cons_zero]
    refine tH 12 ?qbv12 hS (fun w1 ⟨x0, x1, _⟩ => ?qby12) ?_
    case qby12 => go_simp; try rfl
    simp only [Act.put, List.setIfInBounds_toArray, List.set_cons_succ, List.set_cons_zero]
    refine doneH (by kernel_rfl) ?_
    clear hS
    gi_wp2_with fail
    exact ⟨⟨k + 1, by omega, by omega, by go_num, HNX.out rfl, HBB.out⟩, by simp [intOf] <;> omega⟩
   | true =>
    gi_wp2_with fail
    refine drawnH (List.range 13) (Cs [(⟨w0.heap.size, 0, none⟩, .slice oo o.length co), (⟨w0.heap.size, 1, none⟩, .slice ov l.length cv)]) 13 rfl (by kernel_rfl) ?_
    intro wa hwa
    have HBA : Hid (Below W1.heap.size W1 wa) := by subst hwa; exact HB.out.drew
    have hS := HCS.out wa HBA.out
    clear hwa
    refine tH 0 ?qcv0 hS (fun w1 ⟨x0, x1, _⟩ => ?qcy0) ?_
    case qcy0 => go_simp; try rfl
    refine tH 1 ?qcv1 hS (fun w1 ⟨x0, x1, _⟩ => ?qcy1) ?_
    case qcy1 => go_simp; try rfl
    refine tH 2 ?qcv2 hS (fun w1 ⟨x0, x1, _⟩ => ?qcy2) ?_
    case qcy2 => go_simp; try rfl
    refine tH 3 ?qcv3 hS (fun w1 ⟨x0, x1, _⟩ => ?qcy3) ?_
    case qcy3 => go_simp; try rfl
    simp only [Act.put, List.setIfInBounds_toArray, List.set_cons_succ, List.set_cons_zero]
    try rw [hot]
    refine oneH 4 (by rfl) (by kernel_rfl) (fun K hK => ?_)
    gi_wp2_with (gi_at_call 22; refine (callsIn_wide.2 (HW2.out wa HBA.out)).mono ?_; rintro e9 wb ⟨rfl, b9⟩)
    have HBB := Lib.hid (below5 HBA.out b9)
    refine hK _ _ (fun _ => HCS.out wb HBB.out) ?_
    clear hK K b9
    replace hS := HCS.out wb HBB.out
    refine tH 5 ?qdv5 hS (fun w1 ⟨x0, x1, _⟩ => ?qdy5) ?_
    case qdy5 => go_simp; try rfl
    refine tH 6 ?qdv6 hS (fun w1 ⟨x0, x1, _⟩ => ?qdy6) ?_
    case qdy6 => go_simp; try rfl
    refine tH 7 ?qdv7 hS (fun w1 ⟨x0, x1, _⟩ => ?qdy7) ?_
    case qdy7 => go_simp; try rfl
    refine tH 8 ?qdv8 hS (fun w1 ⟨x0, x1, _⟩ => ?qdy8) ?_
    case qdy8 => go_simp; try rfl
    refine tH 9 ?qdv9 hS (fun w1 ⟨x0, x1, _⟩ => ?qdy9) ?_
    case qdy9 => go_simp; try rfl
    refine tH 10 ?qdv10 hS (fun w1 ⟨x0, x1, _⟩ => ?qdy10) ?_
    case qdy10 => go_simp; try rfl
    simp only [Act.put, List.setIfInBounds_toArray, List.set_cons_succ, List.set_cons_zero]
    try rw [hot]
    refine oneH 11 (by rfl) (by kernel_rfl) (fun K hK => ?_)
    gi_wp2_with (gi_at_call 57; refine (callsIn_wide.2 (HH2.out wb HBB.out)).mono ?_; rintro e9 wc ⟨rfl, b9⟩)
    have HBC := Lib.hid (below5 HBB.out b9)
    refine hK _ _ (fun _ => HCS.out wc HBC.out) ?_
    clear hK K b9
    replace hS := HCS.out wc HBC.out
    refine tH 12 ?qev12 hS (fun w1 ⟨x0, x1, _⟩ => ?qey12) ?_
    case qey12 => go_simp; try rfl
    simp only [Act.put, List.setIfInBounds_toArray, List.set_cons_succ, List.set_cons_zero]
    refine doneH (by kernel_rfl) ?_
    clear hS
    cases z with
    | false =>
     gi_wp2_with fail
     exact ⟨⟨k + 1, by omega, by omega, by go_num, HNX.out rfl, HBC.out⟩, by simp [intOf] <;> omega⟩
    | true =>
     gi_wp2_with fail
     go_ret
     have hh : Ck.rcov o (plE l) n = true := any_at i (by have := HI.out; simp; omega) (by rw [List.getElem_range, HP.out]; rfl)
     rw [hh]
     exact ⟨rfl, below5 HB1.out HBC.out⟩
  ·have hiz : ¬ ((k : Int) <= (n.length : Int)) := by omega
   have HB := Lib.hid hb
   clear hb
   gi_wp2_with fail
   go_ret
   have hh : Ck.rcov o (plE l) n = false := any_no fun j hj => by rw [List.getElem_range]; exact HF.out j (by simp at hj; omega)
   rw [hh]
   exact ⟨rfl, below5 HB1.out HB.out⟩
def putE {w : World} (x : ElF w) : List (ElF w) -> List (ElF w)
 | [] => [x]
 | y :: L => if Ck.cmp y.1.2 x.1.2 < 0 then y :: putE x L else if Ck.cmp y.1.2 x.1.2 = 0 then y :: L else x :: y :: L
theorem putE_at {w : World} (x : ElF w) : ∀ (l : List (ElF w)) (k : Nat), k <= l.length -> (∀ j (h : j < l.length), j < k -> Ck.cmp l[j].1.2 x.1.2 < 0) -> (∀ h : k < l.length, ¬ Ck.cmp l[k].1.2 x.1.2 < 0) ->
  putE x l = if ∃ h : k < l.length, Ck.cmp l[k].1.2 x.1.2 = 0 then l else l.take k ++ x :: l.drop k
 | [], k, hk, _, _ => by
  obtain rfl : k = 0 := by simpa using hk
  rw [if_neg (by rintro ⟨h, _⟩; simp at h)]; rfl
 | y :: L, 0, _, _, h2 => by
  have h := h2 (by simp)
  simp only [List.getElem_cons_zero] at h
  rw [putE, if_neg h]
  by_cases h0 : Ck.cmp y.1.2 x.1.2 = 0
  ·rw [if_pos h0, if_pos ⟨by simp, h0⟩]
  ·rw [if_neg h0, if_neg (by rintro ⟨_, e⟩; exact h0 e)]; rfl
 | y :: L, k + 1, hk, h1, h2 => by
  have h := h1 0 (by simp) (by omega)
  simp only [List.getElem_cons_zero] at h
  have ih := putE_at x L k (by simpa using hk) (fun j hj hjk => by have := h1 (j + 1) (by simpa using hj) (by omega); simpa using this) (fun hj => by have := h2 (by simpa using hj); simpa using this)
  rw [putE, if_pos h, ih]
  by_cases h0 : ∃ h : k < L.length, Ck.cmp L[k].1.2 x.1.2 = 0
  ·obtain ⟨hk', e⟩ := h0
   rw [if_pos ⟨hk', e⟩, if_pos ⟨by simpa using hk', by simpa using e⟩]
  ·rw [if_neg h0, if_neg (by rintro ⟨hk', e⟩; exact h0 ⟨by simpa using hk', by simpa using e⟩)]; rfl
theorem info_rfl : (Tryz.prog.info? 160).map (fun i => (i.zero, i.size, i.bytes)) = some (some (.agg #[.int .i64 0, .slice none 0 0, .int .i64 0]), 3, 40) := by kernel_rfl
theorem row_emptyRF (R : Nat -> Prop) (w : World) (h : R w.heap.size) : Row R 160 3 (.slice (some ⟨w.heap.size, 0, none⟩) 0 0) 0 [] (w.alloc (.cells #[] 160)) :=
 ⟨World.ownsRow_lit w #[] 0 (Nat.zero_le _) (by unfold maxLen; omega) rfl, fun g hg => by cases hg; exact h⟩
theorem GRd.elF {w : World} {o : Option Addr} {n cap : Nat} {l : List (ElF w)} {W : World} (h : GRd 3 (.slice o n cap) (l.map encF) W) : ∀ W', Below W.heap.size W W' -> ∀ (i : Nat) (hi : i < l.length) (c0 c1 c2 : Value), encF l[i] = [c0, c1, c2] -> ∃ a, o = some a /\ W'.cell? (a.add (i * 3)) = some c0 /\ W'.cell? ⟨(a.add (i * 3)).block, (a.add (i * 3)).off + 1, none⟩ = some c1 /\ W'.cell? ⟨(a.add (i * 3)).block, (a.add (i * 3)).off + 2, none⟩ = some c2 := by
 intro W' hb i hi c0 c1 c2 hx
 obtain ⟨a, ha, h0, h1⟩ := (h.below hb).at (by decide) i (by simpa using hi)
 rw [List.getElem_map, hx] at h0 h1
 exact ⟨a, ha, h0, h1 1 (by decide) (by decide), h1 2 (by decide) (by decide)⟩
def RAddR {w : World} (l : List (ElF w)) (x : ElF w) (w0 : World) (e : Ending) (w' : World) : Prop :=
 ∃ v', e = .returned v' /\ GRd 3 v' ((putE x l).map encF) w' /\ Below w0.heap.size w0 w'
end Go.Proofs.YtneghhbclefmoaaGreat
end
section
namespace Go.Proofs.YtneghhbclefmoaaGreat
open Go.RowKit Go.Shelf Go.Sort
set_option maxRecDepth 100000
namespace Ck
theorem covF_iff {L : List Rc.PRec} {n : List (List UInt8)} : ∀ K, covF L n K = true ↔ ∃ i, 0 < i /\ i < K /\ Zn.has L (n.drop i) 39 = true
 | 0 => ⟨fun h => (by cases h), fun ⟨i, _, h, _⟩ => (by omega)⟩
 | K + 1 => by
  have ih := covF_iff (L := L) (n := n) K
  rw [covF]
  by_cases hc : (decide (0 < K) && Zn.has L (n.drop K) 39) = true
  ·rw [if_pos hc]
   rw [Bool.and_eq_true, decide_eq_true_eq] at hc
   exact ⟨fun _ => ⟨K, hc.1, by omega, hc.2⟩, fun _ => rfl⟩
  ·rw [if_neg hc, ih]
   rw [Bool.and_eq_true, decide_eq_true_eq] at hc
   constructor
   ·rintro ⟨i, h1, h2, h3⟩; exact ⟨i, h1, by omega, h3⟩
   ·rintro ⟨i, h1, h2, h3⟩
    refine ⟨i, h1, ?_, h3⟩
    by_cases e : i = K
    ·subst e; exact absurd ⟨h1, h3⟩ hc
    ·omega
theorem cov_rcov {o : Zn.Nam} {L : List Rc.PRec} {n : Zn.Nam} (h : Zn.wher o L n = 1) : cov o L n = rcov o L n := by
 have hu : Nm.under n o = true := by
  cases hu : Nm.under n o with
  | true => rfl
  | false => unfold Zn.wher at h; rw [if_neg (by rw [hu]; exact Bool.false_ne_true)] at h; cases h
 have hca : Zn.cutAt o L n = none := by
  unfold Zn.wher at h
  rw [if_pos hu] at h
  cases hc : Zn.cutAt o L n with
  | none => rfl
  | some k => rw [hc] at h; simp only at h; split at h <;> cases h
 have hle := Nm.under_le' hu
 rw [Bool.eq_iff_iff]
 unfold cov rcov
 rw [covF_iff, List.any_eq_true]
 constructor
 ·rintro ⟨i, h1, h2, h3⟩
  refine ⟨i - 1, List.mem_range.2 (by omega), ?_⟩
  unfold rcP
  rw [show i - 1 + 1 = i by omega, h3, Bool.and_true, beq_iff_eq]
  refine Zn.wher_none (Nm.under_drop hu (by omega)) ?_
  rw [Zn.cutAt_drop hu (by omega), hca]
 ·rintro ⟨j, hj, hp⟩
  unfold rcP at hp
  rw [Bool.and_eq_true, beq_iff_eq] at hp
  refine ⟨j + 1, by omega, ?_, hp.2⟩
  have hj' := List.mem_range.1 hj
  by_cases hd : j + 1 <= n.length - o.length
  ·omega
  ·have hn : Nm.under (n.drop (j + 1)) o = false := by
    cases hx : Nm.under (n.drop (j + 1)) o with
    | false => rfl
    | true => have := Nm.under_le' hx; simp at this; omega
   have h0 := hp.1
   unfold Zn.wher at h0
   rw [if_neg (by rw [hn]; exact Bool.false_ne_true)] at h0
   cases h0
end Ck
end Go.Proofs.YtneghhbclefmoaaGreat
end
section
namespace Go.Proofs.YtneghhbclefmoaaGreat
open Go.RowKit Go.Shelf Go.Sort
set_option maxRecDepth 100000
namespace Ck
def alike : List PFl -> List PFl -> Bool
 | [], [] => true
 | x :: a, y :: b => (cmp x y == 0) && alike a b
 | _, _ => false
abbrev Strict (l : List PFl) : Prop := l.Pairwise fun a b => cmp a b < 0
theorem zero_flip {a b : PFl} (h : cmp a b = 0) : cmp b a = 0 := by have := cmp_cm.anti a b; omega
theorem Strict.one : ∀ {L : List PFl}, Strict L -> ∀ {x y : PFl}, x ∈ L -> y ∈ L -> cmp x y = 0 -> x = y
 | c :: L, h, x, y, hx, hy, e => by
  have h' := List.pairwise_cons.1 h
  rcases List.mem_cons.1 hx with h1 | h1 <;> rcases List.mem_cons.1 hy with h2 | h2
  ·rw [h1, h2]
  ·have := h'.1 y h2; rw [h1] at e; omega
  ·have := h'.1 x h1; have := cmp_cm.anti x y; rw [h2] at e this; omega
  ·exact Strict.one h'.2 h1 h2 e
theorem alike_of : ∀ {a b : List PFl}, Strict a -> Strict b -> (∀ x ∈ a, ∃ y ∈ b, cmp x y = 0) -> (∀ y ∈ b, ∃ x ∈ a, cmp x y = 0) -> alike a b = true
 | [], [], _, _, _, _ => rfl
 | [], y :: b, _, _, _, h => by obtain ⟨x, hx, _⟩ := h y List.mem_cons_self; cases hx
 | x :: a, [], _, _, h, _ => by obtain ⟨x, hx, _⟩ := h x List.mem_cons_self; cases hx
 | x :: a, y :: b, ha, hb, h1, h2 => by
  have ha' := List.pairwise_cons.1 ha
  have hb' := List.pairwise_cons.1 hb
  have hxy : cmp x y = 0 := by
   obtain ⟨u, hu, k⟩ := h1 x List.mem_cons_self
   obtain ⟨v, hv, k'⟩ := h2 y List.mem_cons_self
   rcases List.mem_cons.1 hu with rfl | hu
   ·exact k
   ·rcases List.mem_cons.1 hv with rfl | hv
    ·exact k'
    ·exfalso
     have e1 := hb'.1 u hu
     have e2 := ha'.1 v hv
     have a1 := cmp_cm.anti x u
     have e3 := cmp_cm.lt_le (a := y) (b := u) (c := x) e1 (by omega)
     have e4 := cmp_cm.lt_le (a := y) (b := x) (c := v) e3 (by omega)
     have := cmp_cm.anti v y
     omega
  rw [alike, hxy, beq_self_eq_true, Bool.true_and]
  refine alike_of ha'.2 hb'.2 (fun z hz => ?_) (fun z hz => ?_)
  ·obtain ⟨u, hu, k⟩ := h1 z (List.mem_cons_of_mem _ hz)
   rcases List.mem_cons.1 hu with rfl | hu
   ·exfalso
    have e1 := ha'.1 z hz
    have := cmp_cm.anti z u
    have := cmp_cm.zero (a := x) (b := u) (c := z) hxy (by omega)
    omega
   ·exact ⟨u, hu, k⟩
  ·obtain ⟨u, hu, k⟩ := h2 z (List.mem_cons_of_mem _ hz)
   rcases List.mem_cons.1 hu with rfl | hu
   ·exfalso
    have e1 := hb'.1 z hz
    have := cmp_cm.anti u y
    have := cmp_cm.zero (a := y) (b := u) (c := z) (by omega) k
    omega
   ·exact ⟨u, hu, k⟩
structure Of (c l : List PFl) : Prop where
 strict : Strict c
 some : ∀ x ∈ c, x ∈ l
 all : ∀ y ∈ l, ∃ x ∈ c, cmp x y = 0
theorem Of.same {a b l : List PFl} (h : Of a l) (k : Of b l) : alike a b = true :=
 alike_of h.strict k.strict (fun x hx => by
  obtain ⟨y, hy, e⟩ := k.all x (h.some x hx); exact ⟨y, hy, zero_flip e⟩) (fun y hy => h.all y (k.some y hy))
def put (x : PFl) : List PFl -> List PFl
 | [] => [x]
 | y :: L => if cmp y x < 0 then y :: put x L else if cmp y x = 0 then y :: L else x :: y :: L
theorem put_mem {x z : PFl} : ∀ {L : List PFl}, z ∈ put x L -> z = x \/ z ∈ L
 | [], h => by
  simp only [put, List.mem_singleton] at h; exact .inl h
 | y :: L, h => by
  rw [put] at h
  split at h
  ·rcases List.mem_cons.1 h with rfl | h
   ·exact .inr List.mem_cons_self
   ·rcases put_mem h with e | e
    ·exact .inl e
    ·exact .inr (List.mem_cons_of_mem _ e)
  ·split at h
   ·exact .inr h
   ·rcases List.mem_cons.1 h with e | h
    ·exact .inl e
    ·exact .inr h
theorem put_keeps (x : PFl) : ∀ {L : List PFl} {z : PFl}, z ∈ L -> z ∈ put x L
 | y :: L, z, h => by
  rw [put]
  split
  ·rcases List.mem_cons.1 h with rfl | h
   ·exact List.mem_cons_self
   ·exact List.mem_cons_of_mem _ (put_keeps x h)
  ·split
   ·exact h
   ·exact List.mem_cons_of_mem _ h
theorem put_has (x : PFl) : ∀ L : List PFl, ∃ z ∈ put x L, cmp z x = 0
 | [] => ⟨x, by simp [put], cmp_cm.refl x⟩
 | y :: L => by
  rw [put]
  split
  ·obtain ⟨z, hz, e⟩ := put_has x L; exact ⟨z, List.mem_cons_of_mem _ hz, e⟩
  ·split
   ·rename_i h; exact ⟨y, List.mem_cons_self, h⟩
   ·exact ⟨x, List.mem_cons_self, cmp_cm.refl x⟩
theorem put_strict (x : PFl) : ∀ {L : List PFl}, Strict L -> Strict (put x L)
 | [], _ => List.pairwise_singleton _ _
 | y :: L, h => by
  have h' := List.pairwise_cons.1 h
  rw [put]
  split
  ·rename_i hlt
   refine List.pairwise_cons.2 ⟨fun z hz => ?_, put_strict x h'.2⟩
   rcases put_mem hz with rfl | hz
   ·exact hlt
   ·exact h'.1 z hz
  ·split
   ·exact h
   ·rename_i h1 h2
    have hxy : cmp x y < 0 := by have := cmp_cm.anti x y; omega
    refine List.pairwise_cons.2 ⟨fun z hz => ?_, h⟩
    rcases List.mem_cons.1 hz with rfl | hz
    ·exact hxy
    ·have := h'.1 z hz
     exact cmp_cm.lt_le (b := y) hxy (by omega)
theorem Of.put {c l : List PFl} (h : Of c l) (x : PFl) : Of (put x c) (l ++ [x]) := by
 refine ⟨put_strict x h.strict, fun z hz => ?_, fun y hy => ?_⟩
 ·rcases put_mem hz with rfl | hz
  ·simp
  ·exact List.mem_append_left _ (h.some z hz)
 ·rcases List.mem_append.1 hy with hy | hy
  ·obtain ⟨z, hz, e⟩ := h.all y hy; exact ⟨z, put_keeps x hz, e⟩
  ·rw [List.mem_singleton] at hy; subst hy; exact put_has y c
theorem Of.nil : Of [] [] := ⟨List.Pairwise.nil, by simp, by simp⟩
theorem fewL_head : ∀ (l : List PFl) (x : PFl), ∃ t, fewL x l = x :: t
 | [], x => ⟨[], rfl⟩
 | y :: l, x => by
  rw [fewL]
  split
  ·exact fewL_head l x
  ·exact ⟨_, rfl⟩
theorem fewL_of : ∀ (l : List PFl) (x : PFl), (x :: l).Pairwise (fun a b => cmp a b <= 0) -> Of (fewL x l) (x :: l)
 | [], x, _ => ⟨List.pairwise_singleton _ _, fun z h => h, fun z h => ⟨z, h, cmp_cm.refl z⟩⟩
 | y :: l, x, h => by
  have h' := List.pairwise_cons.1 h
  have h'' := List.pairwise_cons.1 h'.2
  rw [fewL]
  split
  ·rename_i e
   have ih := fewL_of l x (List.pairwise_cons.2 ⟨fun z hz => h'.1 z (List.mem_cons_of_mem _ hz), h''.2⟩)
   obtain ⟨t, ht⟩ := fewL_head l x
   refine ⟨ih.strict, fun z hz => ?_, fun z hz => ?_⟩
   ·rcases List.mem_cons.1 (ih.some z hz) with rfl | hz
    ·exact List.mem_cons_self
    ·exact List.mem_cons_of_mem _ (List.mem_cons_of_mem _ hz)
   ·rcases List.mem_cons.1 hz with rfl | hz
    ·exact ih.all z List.mem_cons_self
    ·rcases List.mem_cons.1 hz with rfl | hz
     ·exact ⟨x, by rw [ht]; exact List.mem_cons_self, e⟩
     ·exact ih.all z (List.mem_cons_of_mem _ hz)
  ·rename_i e
   have ih := fewL_of l y h'.2
   have hxy : cmp x y < 0 := by have := h'.1 y List.mem_cons_self; omega
   refine ⟨List.pairwise_cons.2 ⟨fun z hz => ?_, ih.strict⟩, fun z hz => ?_, fun z hz => ?_⟩
   ·rcases List.mem_cons.1 (ih.some z hz) with rfl | hz
    ·exact hxy
    ·exact cmp_cm.lt_le (b := y) hxy (h''.1 z hz)
   ·rcases List.mem_cons.1 hz with rfl | hz
    ·exact List.mem_cons_self
    ·exact List.mem_cons_of_mem _ (ih.some z hz)
   ·rcases List.mem_cons.1 hz with rfl | hz
    ·exact ⟨z, List.mem_cons_self, cmp_cm.refl z⟩
    ·obtain ⟨u, hu, k⟩ := ih.all z hz; exact ⟨u, List.mem_cons_of_mem _ hu, k⟩
theorem few_of (l : List PFl) (h : l.Pairwise fun a b => cmp a b <= 0) : Of (few l) l := by
 cases l with
 | nil => exact Of.nil
 | cons x l => exact fewL_of l x h
theorem few_srt {w : World} (l : List (ElF w)) : Of (few (plF (Srt.srt (Fl.ltC cfF) l))) (plF l) := by
 have ho := Fl.cfF_ord w
 have hst := Srt.srt_st ho l
 obtain ⟨s, hs⟩ : ∃ s, Srt.srt (Fl.ltC (cfF (w := w))) l = s := ⟨_, rfl⟩
 rw [hs] at hst ⊢
 have hm : ∀ x, x ∈ s ↔ x ∈ l := fun x => hst.2.mem ho
 have hp : (plF s).Pairwise fun a b => cmp a b <= 0 := by
  refine List.pairwise_map.2 (hst.1.imp fun {a b} hab => ?_)
  have h1 : ¬ cmp b.1.2 a.1.2 < 0 := by
   have h2 : decide (cfF b a < 0) = false := hab
   exact of_decide_eq_false h2
  have := cmp_cm.anti a.1.2 b.1.2
  omega
 have h := few_of _ hp
 refine ⟨h.strict, fun x hx => ?_, fun y hy => ?_⟩
 ·obtain ⟨z, hz, rfl⟩ := List.mem_map.1 (h.some x hx)
  exact List.mem_map.2 ⟨z, (hm z).1 hz, rfl⟩
 ·obtain ⟨z, hz, rfl⟩ := List.mem_map.1 hy
  exact h.all _ (List.mem_map.2 ⟨z, (hm z).2 hz, rfl⟩)
end Ck
theorem plF_putE {w : World} (x : ElF w) : ∀ l : List (ElF w), plF (putE x l) = Ck.put x.1.2 (plF l)
 | [] => rfl
 | y :: L => by
  have ih := plF_putE x L
  show _ = Ck.put x.1.2 (y.1.2 :: plF L)
  rw [putE, Ck.put]
  by_cases h1 : Ck.cmp y.1.2 x.1.2 < 0
  ·rw [if_pos h1, if_pos h1, <- ih]; rfl
  ·rw [if_neg h1, if_neg h1]
   by_cases h2 : Ck.cmp y.1.2 x.1.2 = 0
   ·rw [if_pos h2, if_pos h2]; rfl
   ·rw [if_neg h2, if_neg h2]; rfl
end Go.Proofs.YtneghhbclefmoaaGreat
end
section
namespace Go.Proofs.YtneghhbclefmoaaGreat
open Go.RowKit Go.Shelf Go.Sort
set_option maxRecDepth 100000
structure OutM (bo : Nat) (w1 : World) (ks : List Int) (W : World) : Prop where
 ob : ∃ o cap, Box bo 55 (.slice o ks.length cap) W /\ Row (fun g => bo < g) 3 1 (.slice o ks.length cap) ks.length (ks.map I64) W
 below : Below bo w1 W
theorem OutM.on {bo : Nat} {w1 : World} {ks : List Int} {A W : World} (h : OutM bo w1 ks A) (hb : Below A.heap.size A W) : OutM bo w1 ks W := by
 obtain ⟨⟨o, cap, h1, h2⟩, h3⟩ := h
 exact ⟨⟨o, cap, h1.below hb, h2.below hb⟩, h3.trans (hb.mono (Nat.le_of_lt h1.lt))⟩
theorem OutM.lt {bo : Nat} {w1 : World} {ks : List Int} {W : World} (h : OutM bo w1 ks W) : bo < W.heap.size := by
 obtain ⟨⟨_, _, h1, _⟩, _⟩ := h; exact h1.lt
def OutR (bo : Nat) (w1 : World) (ks : List Int) (e : Ending) (W : World) : Prop := e = .returned (.tuple #[]) /\ OutM bo w1 ks W
set_option maxHeartbeats 1000000 in
theorem ofCb_any (bo : Nat) (w1 : World) (ks : List Int) (kind : Int) (b : Bool) (W : World) (h : OutM bo w1 ks W) (hk : ks.length <= 100) :
  Calls Tryz.prog 128 #[.int .i64 kind, .bool b, .pointer (some ⟨bo, 0, none⟩)] W (OutR bo w1 (if b then ks ++ [kind] else ks)) := by
 cases b with
 | false =>
  have H := Lib.hid h
  clear h
  refine (callsIn_wide (n := 0)).1 ?_
  refine callsIn_of_wp Tryz.func128 rfl trivial ?_ rfl
  simp only [Tryz.ntmps128, List.size_toArray, List.length_cons, List.length_nil, Nat.reduceAdd, Nat.reduceSub, Array.replicate_succ, Array.replicate_zero, List.push_toArray, List.append_toArray, List.nil_append, List.cons_append]
  gi_wp2_with fail
  go_end0
  exact ⟨rfl, H.out⟩
 | true =>
  have hbl := h.lt
  obtain ⟨⟨o, cap, h1, h2⟩, h3⟩ := h
  have c0 : W.cell? ⟨bo, 0, none⟩ = some _ := h1.cell
  have HN := Lib.hid (GRd.new [.int .i64 kind] rfl (by simp [Value.oneCell']) W 3)
  have HR := Lib.hid (h2.alloc (.cells #[.int .i64 kind] 3))
  have HX := Lib.hid (h1.alloc (.cells #[.int .i64 kind] 3))
  have HB : Hid (Below bo w1 (W.alloc (.cells #[.int .i64 kind] 3))) := h3.alloc (Nat.le_of_lt hbl) _
  have HBL := Lib.hid hbl
  clear h1 h2 h3 hbl
  refine (callsIn_wide (n := 0)).1 ?_
  refine callsIn_of_wp Tryz.func128 rfl trivial ?_ rfl
  simp only [Tryz.ntmps128, List.size_toArray, List.length_cons, List.length_nil, Nat.reduceAdd, Nat.reduceSub, Array.replicate_succ, Array.replicate_zero, List.push_toArray, List.append_toArray, List.nil_append, List.cons_append]
  gi_wp2_with (gi_at_builtin; refine append_g (fun g => bo < g) 3 _ 1 8 info_int rfl (by decide) rfl _ _ _ Tryz.underlying55 rfl _ ks.length (ks.map fun z => [I64 z]) (by rfl) (by rw [show (ks.map fun z => [I64 z]).flatten = ks.map I64 by rw [<- flatten_one (ks.map I64), List.map_map]; rfl]; exact HR.out) _ [[.int .i64 kind]] (by rfl) HN.out (by simp; omega) (by omega) (by have := HBL.out; simp; omega) ?_; intro v10 w10 hrow10 hgr10; have hx := (HX.out.grown hgr10 (fun g hg => HR.out.2 g hg) (by omega)); have HX2 := Lib.hid hx; have HR2 := Lib.hid hrow10; have HB2 := Lib.hid (HB.out.grown hgr10 (by have := HBL.out; simp; omega) (fun g hg => Nat.le_of_lt (HR.out.2 g hg))); have c1 : w10.cell? ⟨bo, 0, none⟩ = some _ := hx.cell; have c2 := hx.frozen; obtain ⟨o10, p10, rfl⟩ : ∃ o cap, v10 = .slice o (ks.length + 1) cap := hrow10.form; clear hrow10 hgr10 hx c0)
  gi_wp2_with fail
  go_end0
  refine ⟨rfl, ⟨o10, p10, ?_, ?_⟩, HB2.out.setCell (p := ⟨bo, 0, none⟩) (Nat.le_refl _) _⟩
  ·rw [List.length_append]; exact HX2.out.set _
  ·rw [List.length_append]
   have hr := HR2.out
   have e : ((ks.map fun z => [I64 z]) ++ [[Value.int .i64 kind]]).flatten = (ks ++ [kind]).map I64 := by
    rw [List.flatten_append, show (ks.map fun z => [I64 z]).flatten = ks.map I64 by rw [<- flatten_one (ks.map I64), List.map_map]; rfl, List.map_append]; rfl
   rw [e] at hr
   exact Row.setOther hr (by omega) _
end Go.Proofs.YtneghhbclefmoaaGreat
end
section
namespace Go.Proofs.YtneghhbclefmoaaGreat
open Go.RowKit Go.Shelf Go.Sort
set_option maxRecDepth 100000
namespace Ck
def addK (ks : List Int) (k : Int) (b : Bool) : List Int := if b then ks ++ [k] else ks
def wild (n : List (List UInt8)) : Bool := Nm.wild n
def kinds (o : Zn.Nam) (L : List Rc.PRec) (own : Zn.Nam) (t : Int) (m : Nat) : List Int :=
 addK (addK (addK (addK (addK (addK [] 4 ((Zn.wher o L own == 0) || ((t == 6) && !Nm.same own o))) 5 ((t == 5) && decide (1 < (Rs.types L own).length))) 6 (((t == 5) || (t == 39)) && decide (1 < m))) 7 (hidden t (Zn.wher o L own))) 8 ((Zn.wher o L own == 1) && cov o L own)) 9 ((t == 2) && wild own)
end Ck
theorem Zn.wher_four (o : Zn.Nam) (L : List Rc.PRec) (n : Zn.Nam) : Zn.wher o L n = 0 \/ (Zn.wher o L n = 1 /\ Nm.under n o = true) \/ Zn.wher o L n = 2 \/ Zn.wher o L n = 3 := by
 unfold Zn.wher
 split
 ·rename_i h
  split
  ·exact .inr (.inl ⟨rfl, h⟩)
  ·split
   ·exact .inr (.inr (.inl rfl))
   ·exact .inr (.inr (.inr rfl))
 ·exact .inl rfl
def OfKR (ks : List Int) (w0 : World) (e : Ending) (w' : World) : Prop := ∃ v, e = .returned v /\ Row (fun g => w0.heap.size <= g) 3 1 v ks.length (ks.map I64) w' /\ Below w0.heap.size w0 w'
theorem types_len' (L : List Rc.PRec) (o : List (List UInt8)) : (Rs.types L o).length <= L.length := by
 unfold Rs.types
 refine Nat.le_trans (compact_len _) ?_
 rw [List.length_mergeSort, List.length_map]
 exact List.length_filter_le _ _
end Go.Proofs.YtneghhbclefmoaaGreat
end
section
namespace Go.Proofs.YtneghhbclefmoaaGreat
open Go.RowKit Go.Shelf Go.Sort
set_option maxRecDepth 100000
namespace Ck
open Rc
def apexL (o : Zn.Nam) (L : List PRec) : List (Int × Int) :=
 (if (Rs.mine L o 6).isEmpty then [((1 : Int), (6 : Int))] else []) ++ ((if 1 < (Rs.datOf (Rs.mine L o 6)).length then [((2 : Int), (6 : Int))] else []) ++ (if Zn.has L o 2 then [] else [((3 : Int), (2 : Int))]))
def ofG (o : Zn.Nam) (L g : List PRec) : List PFl := match g with
 | [] => []
 | x :: xs => (kinds o L x.owner x.type (x :: xs).length).map fun k => ⟨k, x.owner, x.type⟩
def apexF (o : Zn.Nam) (L : List PRec) : List PFl := (apexL o L).map fun p => ⟨p.1, o, p.2⟩
def raw (o : Zn.Nam) (L : List PRec) : List PFl := apexF o L ++ (Rs.G L).flatMap (ofG o L)
def kindsOf (o : Zn.Nam) (L : List PRec) (r : PRec) : List Int := kinds o L r.owner r.type (Rs.mine L r.owner r.type).length
theorem mem_addK {ks : List Int} {j k : Int} {b : Bool} : k ∈ addK ks j b ↔ k ∈ ks \/ (k = j /\ b = true) := by
 unfold addK
 cases b <;> simp
theorem mem_kinds {o : Zn.Nam} {L : List PRec} {own : Zn.Nam} {t : Int} {m : Nat} {k : Int} : k ∈ kinds o L own t m ↔
  (k = 4 /\ ((Zn.wher o L own == 0) || ((t == 6) && !Nm.same own o)) = true) \/ (k = 5 /\ ((t == 5) && decide (1 < (Rs.types L own).length)) = true) \/ (k = 6 /\ (((t == 5) || (t == 39)) && decide (1 < m)) = true) \/ (k = 7 /\ hidden t (Zn.wher o L own) = true) \/ (k = 8 /\ ((Zn.wher o L own == 1) && cov o L own) = true) \/ (k = 9 /\ ((t == 2) && wild own) = true) := by
 unfold kinds
 simp only [mem_addK, List.not_mem_nil, false_or]
 constructor
 ·rintro (((((h | h) | h) | h) | h) | h)
  ·exact .inl h
  ·exact .inr (.inl h)
  ·exact .inr (.inr (.inl h))
  ·exact .inr (.inr (.inr (.inl h)))
  ·exact .inr (.inr (.inr (.inr (.inl h))))
  ·exact .inr (.inr (.inr (.inr (.inr h))))
 ·rintro (h | h | h | h | h | h)
  ·exact .inl (.inl (.inl (.inl (.inl h))))
  ·exact .inl (.inl (.inl (.inl (.inr h))))
  ·exact .inl (.inl (.inl (.inr h)))
  ·exact .inl (.inl (.inr h))
  ·exact .inl (.inr h)
  ·exact .inr h
theorem kinds_range {o : Zn.Nam} {L : List PRec} {own : Zn.Nam} {t : Int} {m : Nat} {k : Int} (h : k ∈ kinds o L own t m) : 1 <= k /\ k <= 9 := by
 rcases mem_kinds.1 h with ⟨h, _⟩ | ⟨h, _⟩ | ⟨h, _⟩ | ⟨h, _⟩ | ⟨h, _⟩ | ⟨h, _⟩ <;> omega
theorem apex_range {o : Zn.Nam} {L : List PRec} {p : Int × Int} (h : p ∈ apexL o L) : 1 <= p.1 /\ p.1 <= 9 := by
 have key : ∀ (a b c : Bool), p ∈ ((if a then [((1 : Int), (6 : Int))] else []) ++ ((if b then [((2 : Int), (6 : Int))] else []) ++ (if c then [] else [((3 : Int), (2 : Int))]))) -> 1 <= p.1 /\ p.1 <= 9 := by
  intro a b c hp
  cases a <;> cases b <;> cases c <;> simp at hp
  all_goals first | (rcases hp with rfl | rfl | rfl <;> exact ⟨by decide, by decide⟩) | (rcases hp with rfl | rfl <;> exact ⟨by decide, by decide⟩) | (subst hp; exact ⟨by decide, by decide⟩)
 refine key (Rs.mine L o 6).isEmpty (decide (1 < (Rs.datOf (Rs.mine L o 6)).length)) (Zn.has L o 2) ?_
 unfold apexL at h
 simpa only [decide_eq_true_eq] using h
theorem mem_ofG {o : Zn.Nam} {L g : List PRec} {f : PFl} (h : f ∈ ofG o L g) : ∃ x xs, g = x :: xs /\ f.owner = x.owner /\ f.type = x.type /\ f.kind ∈ kinds o L x.owner x.type g.length := by
 cases g with
 | nil => cases h
 | cons x xs =>
  obtain ⟨k, hk, rfl⟩ := List.mem_map.1 h
  exact ⟨x, xs, rfl, rfl, rfl, hk⟩
theorem raw_range {o : Zn.Nam} {L : List PRec} {f : PFl} (h : f ∈ raw o L) : 1 <= f.kind /\ f.kind <= 9 := by
 rcases List.mem_append.1 h with h | h
 ·obtain ⟨p, hp, rfl⟩ := List.mem_map.1 h
  exact apex_range hp
 ·obtain ⟨g, _, hf⟩ := List.mem_flatMap.1 h
  obtain ⟨x, xs, _, _, _, hk⟩ := mem_ofG hf
  exact kinds_range hk
theorem kinds_len (o : Zn.Nam) (L : List PRec) (own : Zn.Nam) (t : Int) (m : Nat) : (kinds o L own t m).length <= 6 := by
 have h : ∀ ks k b, (addK ks k b).length <= ks.length + 1 := fun ks k b => by unfold addK; cases b <;> simp
 unfold kinds
 refine Nat.le_trans (h _ _ _) (Nat.succ_le_succ ?_)
 refine Nat.le_trans (h _ _ _) (Nat.succ_le_succ ?_)
 refine Nat.le_trans (h _ _ _) (Nat.succ_le_succ ?_)
 refine Nat.le_trans (h _ _ _) (Nat.succ_le_succ ?_)
 refine Nat.le_trans (h _ _ _) (Nat.succ_le_succ ?_)
 refine Nat.le_trans (h _ _ _) (Nat.succ_le_succ ?_)
 exact Nat.le_refl _
theorem sgn_refl (a : Int) : Nm.sgn a a = 0 := by unfold Nm.sgn; simp
theorem cmp_of {a b : PFl} (h1 : Nm.fold a.owner = Nm.fold b.owner) (h2 : a.kind = b.kind) (h3 : a.type = b.type) : cmp a b = 0 := by
 have h := Nm.cmp_zero a.owner b.owner
 have h0 : Nm.cmp a.owner b.owner = 0 := by
  unfold Nm.same at h
  rw [h1] at h
  simpa using h
 unfold cmp orI
 rw [h0, h2, h3, sgn_refl, sgn_refl]
 simp
theorem cmp_same {a b : PFl} (h : cmp a b = 0) : Nm.fold a.owner = Nm.fold b.owner /\ a.kind = b.kind /\ a.type = b.type := by
 obtain ⟨h1, h2⟩ := orI_zero.1 h
 obtain ⟨h2, h3⟩ := orI_zero.1 h2
 refine ⟨?_, sgn_zero h2, sgn_zero h3⟩
 have h4 := Nm.cmp_zero a.owner b.owner
 rw [h1] at h4
 have : Nm.same a.owner b.owner = true := by rw [<- h4]; rfl
 exact eq_of_beq this
theorem fold_len {a b : Zn.Nam} (h : Nm.fold a = Nm.fold b) : a.length = b.length := by
 have := congrArg List.length h
 simpa [Nm.fold] using this
theorem fold_drop {a b : Zn.Nam} (h : Nm.fold a = Nm.fold b) (k : Nat) : Nm.fold (a.drop k) = Nm.fold (b.drop k) := by
 unfold Nm.fold at h ⊢
 rw [List.map_drop, List.map_drop, h]
theorem same_right {a b o : Zn.Nam} (h : Nm.fold a = Nm.fold b) : Nm.same o a = Nm.same o b := by unfold Nm.same; rw [h]
theorem has_fold {L : List PRec} {a b : Zn.Nam} (h : Nm.fold a = Nm.fold b) (t : Int) : Zn.has L a t = Zn.has L b t := by
 unfold Zn.has
 congr 1
 funext r
 rw [same_right h]
theorem cutF_fold {ol : Nat} {L : List PRec} {a b : Zn.Nam} (h : Nm.fold a = Nm.fold b) : ∀ k, Zn.cutF ol L a k = Zn.cutF ol L b k
 | 0 => rfl
 | k + 1 => by rw [Zn.cutF, Zn.cutF, cutF_fold h k, fold_len (fold_drop h k), has_fold (fold_drop h k)]
theorem wher_fold {o : Zn.Nam} {L : List PRec} {a b : Zn.Nam} (h : Nm.fold a = Nm.fold b) : Zn.wher o L a = Zn.wher o L b := by
 unfold Zn.wher Zn.cutAt
 rw [Zn.under_fold h, fold_len h, cutF_fold h]
 split
 ·split
  ·rfl
  ·rw [fold_len (fold_drop h _)]
 ·rfl
theorem covF_fold {L : List PRec} {a b : Zn.Nam} (h : Nm.fold a = Nm.fold b) : ∀ k, covF L a k = covF L b k
 | 0 => rfl
 | k + 1 => by rw [covF, covF, covF_fold h k, has_fold (fold_drop h k)]
theorem cov_fold {o : Zn.Nam} {L : List PRec} {a b : Zn.Nam} (h : Nm.fold a = Nm.fold b) : cov o L a = cov o L b := by
 unfold cov
 rw [fold_len h, covF_fold h]
theorem types_fold {L : List PRec} {a b : Zn.Nam} (h : Nm.fold a = Nm.fold b) : Rs.types L a = Rs.types L b := by
 unfold Rs.types
 have e : (fun r : PRec => Nm.same r.owner a) = fun r => Nm.same r.owner b := by funext r; exact same_right h
 rw [e]
theorem mine_fold {L : List PRec} {a b : Zn.Nam} (h : Nm.fold a = Nm.fold b) (t : Int) : Rs.mine L a t = Rs.mine L b t := by
 unfold Rs.mine
 have e : Rs.Q a t = Rs.Q b t := by funext r; unfold Rs.Q Nm.same; rw [h]
 rw [e]
theorem low_star {c : UInt8} (h : Lb.low c = 42) : c = 42 := by
 unfold Lb.low at h
 split at h
 ·rename_i hc
  have h1 := congrArg UInt8.toNat h
  rw [UInt8.toNat_add] at h1
  have h2 : (32 : UInt8).toNat = 32 := rfl
  have h3 : (42 : UInt8).toNat = 42 := rfl
  rw [h2, h3] at h1
  omega
 ·exact h
theorem fold_star {x : List UInt8} (h : Lb.fold x = [42]) : x = [42] := by
 unfold Lb.fold at h
 match x, h with
 | [c], h =>
  simp only [List.map_cons, List.map_nil, List.cons.injEq, and_true] at h
  rw [low_star h]
 | [], h => simp at h
 | _ :: _ :: _, h => simp at h
theorem wild_fold {a b : Zn.Nam} (h : Nm.fold a = Nm.fold b) : wild a = wild b := by
 have s : Lb.fold [42] = [42] := by decide +kernel
 have one : ∀ {x y : List UInt8}, Lb.fold x = Lb.fold y -> (x == [42]) = true -> (y == [42]) = true := fun {x y} e hx => by
  rw [beq_iff_eq] at hx ⊢
  rw [hx, s] at e
  exact fold_star e.symm
 match a, b, h with
 | [], [], _ => rfl
 | x :: _, y :: _, h =>
  have e : Lb.fold x = Lb.fold y := by
   unfold Nm.fold at h
   rw [List.map_cons, List.map_cons] at h
   exact (List.cons.inj h).1
  show (x == [42]) = (y == [42])
  rw [Bool.eq_iff_iff]
  exact ⟨one e, one e.symm⟩
 | [], _ :: _, h => simp [Nm.fold] at h
 | _ :: _, [], h => simp [Nm.fold] at h
theorem kinds_fold {o : Zn.Nam} {L : List PRec} {a b : Zn.Nam} (h : Nm.fold a = Nm.fold b) (t : Int) (m : Nat) : kinds o L a t m = kinds o L b t m := by
 unfold kinds
 rw [wher_fold h, types_fold h, cov_fold h, wild_fold h, Rs.same_congr h]
theorem raw_mem {o : Zn.Nam} {L : List PRec} (hc : canon L = L) {f : PFl} (h : f ∈ raw o L) : f ∈ apexF o L \/ ∃ r ∈ L, f.owner = r.owner /\ f.type = r.type /\ f.kind ∈ kindsOf o L r := by
 rcases List.mem_append.1 h with h | h
 ·exact .inl h
 ·obtain ⟨g, hg, hf⟩ := List.mem_flatMap.1 h
  obtain ⟨x, xs, rfl, h1, h2, h3⟩ := mem_ofG hf
  obtain ⟨y, ys, e, hm, _, _⟩ := Rs.grp_found hg
  cases e
  refine .inr ⟨x, by rw [<- hc]; exact Rs.G_mem hg List.mem_cons_self, h1, h2, ?_⟩
  unfold kindsOf
  rw [hm]; exact h3
theorem raw_of {o : Zn.Nam} {L : List PRec} (hc : canon L = L) {r : PRec} (hr : r ∈ L) {k : Int} (hk : k ∈ kindsOf o L r) : ∃ f ∈ raw o L, cmp f ⟨k, r.owner, r.type⟩ = 0 := by
 obtain ⟨x, xs, hg, hp, _⟩ := Rs.G_of (l := L) (r := r) (by rw [hc]; exact hr)
 obtain ⟨y, ys, e, hm, _, _⟩ := Rs.grp_found hg
 cases e
 unfold Rs.P at hp
 rw [Bool.and_eq_true, beq_iff_eq] at hp
 have hfo : Nm.fold x.owner = Nm.fold r.owner := eq_of_beq hp.2
 unfold kindsOf at hk
 rw [<- kinds_fold hfo, <- mine_fold hfo, <- hp.1, hm] at hk
 exact ⟨⟨k, x.owner, x.type⟩, List.mem_append_right _ (List.mem_flatMap.2 ⟨_, hg, List.mem_map.2 ⟨k, hk, rfl⟩⟩), cmp_of hfo rfl hp.1⟩
theorem has_put {x : PRec} {L : List PRec} {n : Zn.Nam} {t : Int} (h : x.type ≠ t) : Zn.has (Rc.put x L) n t = Zn.has L n t := by
 unfold Zn.has
 rw [Bool.eq_iff_iff, List.any_eq_true, List.any_eq_true]
 constructor
 ·rintro ⟨z, hz, hp⟩
  rcases Rc.put_mem hz with hz | ⟨e, _⟩
  ·exact ⟨z, hz, hp⟩
  ·rw [Bool.and_eq_true, beq_iff_eq] at hp
   exact absurd ((cmp_type e).symm.trans hp.1) h
 ·rintro ⟨z, hz, hp⟩
  obtain ⟨y, hy, e, _⟩ := Rc.put_keeps x hz
  refine ⟨y, hy, ?_⟩
  rw [cmp_type e]
  unfold Nm.same at hp ⊢
  rw [cmp_owner e]; exact hp
theorem cutF_put {x : PRec} (h : x.type = 16) {ol : Nat} {L : List PRec} {n : Zn.Nam} : ∀ k, Zn.cutF ol (Rc.put x L) n k = Zn.cutF ol L n k
 | 0 => rfl
 | k + 1 => by rw [Zn.cutF, Zn.cutF, cutF_put h k, has_put (by rw [h]; decide)]
theorem wher_put {x : PRec} (h : x.type = 16) {o : Zn.Nam} {L : List PRec} {n : Zn.Nam} : Zn.wher o (Rc.put x L) n = Zn.wher o L n := by
 unfold Zn.wher Zn.cutAt
 rw [cutF_put h]
theorem covF_put {x : PRec} (h : x.type = 16) {L : List PRec} {n : Zn.Nam} : ∀ k, covF (Rc.put x L) n k = covF L n k
 | 0 => rfl
 | k + 1 => by rw [covF, covF, covF_put h k, has_put (by rw [h]; decide)]
theorem cov_put {x : PRec} (h : x.type = 16) {o : Zn.Nam} {L : List PRec} {n : Zn.Nam} : cov o (Rc.put x L) n = cov o L n := by
 unfold cov
 rw [covF_put h]
theorem mine_put {x : PRec} {L : List PRec} (hs : Rc.Strict L) {n : Zn.Nam} {t : Int} (h : x.type ≠ t) : Rs.mine (Rc.put x L) n t = Rs.mine L n t := by
 unfold Rs.mine
 rw [Rs.put_filter (Rs.Q_inv n t) x hs, if_neg]
 unfold Rs.Q
 rw [Bool.and_eq_true, beq_iff_eq]
 exact fun e => h e.1.symm
theorem apex_put {x : PRec} (h : x.type = 16) {L : List PRec} (hs : Rc.Strict L) {o : Zn.Nam} : apexF o (Rc.put x L) = apexF o L := by
 unfold apexF apexL
 rw [mine_put hs (by rw [h]; decide), has_put (by rw [h]; decide)]
theorem two_in {l : List Int} (h : l.Pairwise (· < ·)) : 1 < l.length ↔ ∃ a ∈ l, ∃ b ∈ l, a ≠ b := by
 match l, h with
 | [], _ => simp
 | [a], _ =>
  constructor
  ·intro h; simp at h
  ·rintro ⟨x, hx, y, hy, e⟩
   simp only [List.mem_singleton] at hx hy
   exact absurd (hx.trans hy.symm) e
 | a :: b :: l, h =>
  refine ⟨fun _ => ⟨a, by simp, b, by simp, ?_⟩, fun _ => by simp⟩
  have := (List.pairwise_cons.1 h).1 b (by simp)
  omega
theorem two_types {L : List PRec} {n : Zn.Nam} : 1 < (Rs.types L n).length ↔ ∃ r ∈ L, ∃ s ∈ L, Nm.same r.owner n = true /\ Nm.same s.owner n = true /\ r.type ≠ s.type := by
 obtain ⟨h1, h2⟩ := Rs.types_strict L n
 rw [two_in h1]
 constructor
 ·rintro ⟨a, ha, b, hb, hne⟩
  obtain ⟨r, hr, e1, rfl⟩ := (h2 a).1 ha
  obtain ⟨s, hs, e2, rfl⟩ := (h2 b).1 hb
  exact ⟨r, hr, s, hs, e1, e2, hne⟩
 ·rintro ⟨r, hr, s, hs, e1, e2, hne⟩
  exact ⟨r.type, (h2 _).2 ⟨r, hr, e1, rfl⟩, s.type, (h2 _).2 ⟨s, hs, e2, rfl⟩, hne⟩
theorem kinds_keep {x : PRec} (h : x.type = 16) {o : Zn.Nam} {L : List PRec} (hs : Rc.Strict L) {r z : PRec} (e : Rc.cmp z r = 0) {k : Int} (hk : k ∈ kindsOf o L r) : k ∈ kindsOf o (Rc.put x L) z := by
 have hf := cmp_owner e
 have ht := cmp_type e
 unfold kindsOf
 rw [kinds_fold hf, mine_fold hf, ht]
 unfold kindsOf at hk
 rw [mem_kinds] at hk ⊢
 rw [wher_put h, cov_put h]
 rcases hk with hk | ⟨h1, h2⟩ | ⟨h1, h2⟩ | hk | hk | hk
 ·exact .inl hk
 ·refine .inr (.inl ⟨h1, ?_⟩)
  rw [Bool.and_eq_true, decide_eq_true_eq] at h2 ⊢
  refine ⟨h2.1, two_types.2 ?_⟩
  obtain ⟨a, ha, b, hb, e1, e2, hne⟩ := two_types.1 h2.2
  obtain ⟨a', ha', ea, _⟩ := Rc.put_keeps x ha
  obtain ⟨b', hb', eb, _⟩ := Rc.put_keeps x hb
  refine ⟨a', ha', b', hb', ?_, ?_, by rw [cmp_type ea, cmp_type eb]; exact hne⟩
  ·rw [Rs.same_congr (cmp_owner ea)]; exact e1
  ·rw [Rs.same_congr (cmp_owner eb)]; exact e2
 ·refine .inr (.inr (.inl ⟨h1, ?_⟩))
  have hne : x.type ≠ r.type := by
   intro he
   rw [<- he, h] at h2
   simp at h2
  rw [mine_put hs hne]; exact h2
 ·exact .inr (.inr (.inr (.inl hk)))
 ·exact .inr (.inr (.inr (.inr (.inl hk))))
 ·exact .inr (.inr (.inr (.inr (.inr hk))))
def ownK (o : Zn.Nam) (L : List PRec) (n : Zn.Nam) : Int := if Zn.wher o L n = 0 then 4 else if Zn.wher o L n = 1 then 8 else 7
theorem kinds_new {x : PRec} (h : x.type = 16) {o : Zn.Nam} {L : List PRec} (hs : Rc.Strict L) {z : PRec} (hz : z ∈ Rc.put x L) {k : Int} (hk : k ∈ kindsOf o (Rc.put x L) z) :
  (z ∈ L /\ k ∈ kindsOf o L z) \/ (Nm.fold z.owner = Nm.fold x.owner /\ ((k = 5 /\ z.type = 5) \/ (k = ownK o L x.owner /\ z.type = 16))) := by
 rcases Rc.put_mem hz with hzl | ⟨e, _⟩
 ·unfold kindsOf at hk
  rw [mem_kinds] at hk
  rw [wher_put h, cov_put h] at hk
  have in6 : (k = 6 /\ (((z.type == 5) || (z.type == 39)) && decide (1 < (Rs.mine (Rc.put x L) z.owner z.type).length)) = true) -> k ∈ kindsOf o L z := fun ⟨h1, h2⟩ => by
   have hne : x.type ≠ z.type := by
    intro he
    rw [<- he, h] at h2
    simp at h2
   unfold kindsOf
   rw [mem_kinds]
   rw [mine_put hs hne] at h2
   exact .inr (.inr (.inl ⟨h1, h2⟩))
  rcases hk with hk | ⟨h1, h2⟩ | hk | hk | hk | hk
  ·exact .inl ⟨hzl, by unfold kindsOf; rw [mem_kinds]; exact .inl hk⟩
  ·rw [Bool.and_eq_true, decide_eq_true_eq, beq_iff_eq] at h2
   obtain ⟨a, ha, b, hb, e1, e2, hne⟩ := two_types.1 h2.2
   have near : ∀ {c : PRec}, Rc.cmp c x = 0 -> Nm.same c.owner z.owner = true -> Nm.fold z.owner = Nm.fold x.owner := fun {c} ec hc => by
    have := eq_of_beq hc
    rw [<- this, cmp_owner ec]
   rcases Rc.put_mem ha with ha | ⟨ea, _⟩
   ·rcases Rc.put_mem hb with hb | ⟨eb, _⟩
    ·refine .inl ⟨hzl, ?_⟩
     unfold kindsOf
     rw [mem_kinds]
     refine .inr (.inl ⟨h1, ?_⟩)
     rw [Bool.and_eq_true, decide_eq_true_eq, beq_iff_eq]
     exact ⟨h2.1, two_types.2 ⟨a, ha, b, hb, e1, e2, hne⟩⟩
    ·exact .inr ⟨near eb e2, .inl ⟨h1, h2.1⟩⟩
   ·exact .inr ⟨near ea e1, .inl ⟨h1, h2.1⟩⟩
  ·exact .inl ⟨hzl, in6 hk⟩
  ·exact .inl ⟨hzl, by unfold kindsOf; rw [mem_kinds]; exact .inr (.inr (.inr (.inl hk)))⟩
  ·exact .inl ⟨hzl, by unfold kindsOf; rw [mem_kinds]; exact .inr (.inr (.inr (.inr (.inl hk))))⟩
  ·exact .inl ⟨hzl, by unfold kindsOf; rw [mem_kinds]; exact .inr (.inr (.inr (.inr (.inr hk))))⟩
 ·have hf := cmp_owner e
  have ht := cmp_type e
  rw [h] at ht
  refine .inr ⟨hf, .inr ⟨?_, ht⟩⟩
  unfold kindsOf at hk
  rw [kinds_fold hf, mem_kinds, wher_put h, ht] at hk
  unfold ownK
  rcases hk with ⟨h1, h2⟩ | ⟨_, h2⟩ | ⟨_, h2⟩ | ⟨h1, h2⟩ | ⟨h1, h2⟩ | ⟨_, h2⟩
  ·have h0 : Zn.wher o L x.owner = 0 := by simpa using h2
   rw [if_pos h0]; exact h1
  ·simp at h2
  ·simp at h2
  ·unfold hidden at h2
   rw [if_neg, if_neg]
   ·exact h1
   ·intro e1; rw [e1] at h2; simp at h2
   ·intro e1; rw [e1] at h2; simp at h2
  ·rw [Bool.and_eq_true, beq_iff_eq] at h2
   rw [if_neg (by rw [h2.1]; decide), if_pos h2.1]; exact h1
  ·simp at h2
theorem grows_keep {x : PRec} (h : x.type = 16) {o : Zn.Nam} {L : List PRec} (hc : canon L = L) (hc2 : canon (Rc.put x L) = Rc.put x L) {f : PFl} (hf : f ∈ raw o L) : ∃ g ∈ raw o (Rc.put x L), cmp f g = 0 := by
 have hs : Rc.Strict L := by rw [<- hc]; exact (canon_of L).strict
 rcases raw_mem hc hf with hf | ⟨r, hr, h1, h2, h3⟩
 ·exact ⟨f, List.mem_append_left _ (by rw [apex_put h hs]; exact hf), cmp_cm.refl f⟩
 ·obtain ⟨z, hz, e, _⟩ := Rc.put_keeps x hr
  obtain ⟨g, hg, eg⟩ := raw_of hc2 hz (kinds_keep h hs e h3)
  obtain ⟨e1, e2, e3⟩ := cmp_same eg
  refine ⟨g, hg, cmp_of ?_ ?_ ?_⟩
  ·rw [h1, e1]; exact (cmp_owner e).symm
  ·exact e2.symm
  ·rw [h2, e3]; exact (cmp_type e).symm
theorem grows_new {x : PRec} (h : x.type = 16) {o : Zn.Nam} {L : List PRec} (hc : canon L = L) (hc2 : canon (Rc.put x L) = Rc.put x L) {g : PFl} (hg : g ∈ raw o (Rc.put x L)) :
  (∃ f ∈ raw o L, cmp f g = 0) \/ cmp ⟨5, x.owner, 5⟩ g = 0 \/ cmp ⟨ownK o L x.owner, x.owner, 16⟩ g = 0 := by
 have hs : Rc.Strict L := by rw [<- hc]; exact (canon_of L).strict
 rcases raw_mem hc2 hg with hg | ⟨z, hz, h1, h2, h3⟩
 ·exact .inl ⟨g, List.mem_append_left _ (by rw [apex_put h hs] at hg; exact hg), cmp_cm.refl g⟩
 ·rcases kinds_new h hs hz h3 with ⟨hzl, hk⟩ | ⟨hf, ⟨hk, ht⟩ | ⟨hk, ht⟩⟩
  ·obtain ⟨f, hf, e⟩ := raw_of hc hzl hk
   obtain ⟨e1, e2, e3⟩ := cmp_same e
   exact .inl ⟨f, hf, cmp_of (by rw [h1]; exact e1) e2 (by rw [h2]; exact e3)⟩
  ·exact .inr (.inl (cmp_of (by rw [h1]; exact hf.symm) hk.symm (by rw [h2]; exact ht.symm)))
  ·exact .inr (.inr (cmp_of (by rw [h1]; exact hf.symm) hk.symm (by rw [h2]; exact ht.symm)))
theorem len_le : ∀ {b c : List PFl}, Strict b -> (∀ y ∈ b, ∃ z ∈ c, cmp z y = 0) -> b.length <= c.length
 | [], _, _, _ => Nat.zero_le _
 | y :: b, c, hs, h => by
  have hs' := List.pairwise_cons.1 hs
  obtain ⟨z, hz, e⟩ := h y List.mem_cons_self
  obtain ⟨c1, c2, rfl⟩ := List.append_of_mem hz
  have ih := len_le (b := b) (c := c1 ++ c2) hs'.2 (fun u hu => by
   obtain ⟨v, hv, k⟩ := h u (List.mem_cons_of_mem _ hu)
   rcases List.mem_append.1 hv with hv | hv
   ·exact ⟨v, List.mem_append_left _ hv, k⟩
   ·rcases List.mem_cons.1 hv with rfl | hv
    ·exfalso
     have h1 := hs'.1 u hu
     have h2 := cmp_cm.zero (zero_flip e) k
     omega
    ·exact ⟨v, List.mem_append_right _ hv, k⟩)
  simp only [List.length_append, List.length_cons] at ih ⊢
  omega
theorem grows {x : PRec} (h : x.type = 16) {o : Zn.Nam} {l : List PRec} {a b : List PFl} (ha : Of a (raw o (canon l))) (hb : Of b (raw o (canon (l ++ [x])))) :
  (∀ f ∈ a, ∃ g ∈ b, cmp f g = 0) /\ b.length <= a.length + 2 := by
 have hc : canon (canon l) = canon l := canon_twice l
 have hc2 : canon (canon (l ++ [x])) = canon (l ++ [x]) := canon_twice _
 have hp : canon (l ++ [x]) = Rc.put x (canon l) := by rw [canon_eq, refCanon_snoc, <- canon_eq]
 rw [hp] at hb hc2
 refine ⟨fun f hf => ?_, ?_⟩
 ·obtain ⟨g, hg, e⟩ := grows_keep h hc hc2 (ha.some f hf)
  obtain ⟨y, hy, k⟩ := hb.all g hg
  exact ⟨y, hy, cmp_cm.zero e (zero_flip k)⟩
 ·have := len_le (b := b) (c := a ++ [⟨5, x.owner, 5⟩, ⟨ownK o (canon l) x.owner, x.owner, 16⟩]) hb.strict (fun y hy => by
   rcases grows_new h hc hc2 (hb.some y hy) with ⟨f, hf, e⟩ | e | e
   ·obtain ⟨z, hz, k⟩ := ha.all f hf
    exact ⟨z, List.mem_append_left _ hz, cmp_cm.zero k e⟩
   ·exact ⟨_, List.mem_append_right _ List.mem_cons_self, e⟩
   ·exact ⟨_, List.mem_append_right _ (List.mem_cons_of_mem _ List.mem_cons_self), e⟩)
  simpa using this
end Ck
end Go.Proofs.YtneghhbclefmoaaGreat
end
section
namespace Go.Proofs.YtneghhbclefmoaaGreat
open Go.RowKit Go.Shelf Go.Sort
set_option maxRecDepth 100000
def Ck.words : List (List UInt8) := [[], [110, 111, 115, 111, 97], [109, 97, 110, 121, 115, 111, 97], [110, 111, 110, 115], [115, 116, 114, 97, 110, 103, 101], [109, 105, 120, 101, 100], [109, 97, 110, 121, 110, 97, 109, 101], [104, 105, 100, 100, 101, 110], [99, 111, 118, 101, 114, 101, 100], [119, 105, 108, 100, 110, 115]]
set_option maxHeartbeats 1000000 in
theorem ckWord_any (k : Nat) (hk : k < 10) (w : World) : Calls Tryz.prog 45 #[.int .i64 (k : Int)] w fun e w' => e = .returned (S (Ck.words[k]'hk)) /\ Below w.heap.size w w' := by
 have h : k = 0 \/ k = 1 \/ k = 2 \/ k = 3 \/ k = 4 \/ k = 5 \/ k = 6 \/ k = 7 \/ k = 8 \/ k = 9 := by omega
 rcases h with rfl | rfl | rfl | rfl | rfl | rfl | rfl | rfl | rfl | rfl
 all_goals
  refine (callsIn_wide (n := 0)).1 ?_
  refine callsIn_of_wp Tryz.func45 rfl trivial ?_ rfl
  simp only [Tryz.ntmps45, List.size_toArray, List.length_cons, List.length_nil, Nat.reduceAdd, Nat.reduceSub, Array.replicate_succ, Array.replicate_zero, List.push_toArray, List.append_toArray, List.nil_append, List.cons_append]
  gi_wp2_with fail
  go_ret
  exact ⟨rfl, (Below.refl _ _).alloc (Nat.le_refl _) _⟩
end Go.Proofs.YtneghhbclefmoaaGreat
end
