/- The document's Check: the walk. -/
import Derived.Test.YtneghhbclefmoaaGreatKCkH
import Derived.Test.YtneghhbclefmoaaGreatKCkD
import Derived.Test.YtneghhbclefmoaaGreatKCkB
import Derived.Test.YtneghhbclefmoaaGreatKReP
import Derived.Test.YtneghhbclefmoaaGreatKSgG
import Derived.Sort.CutIn
import Derived.Test.YtneghhbclefmoaaGreatKCkK
import Derived.Test.YtneghhbclefmoaaGreatKReg
section
namespace Go.Proofs.YtneghhbclefmoaaGreat
open Go.RowKit Go.Shelf Go.Sort
set_option maxRecDepth 100000
attribute [local go_sem] Oper.semAt_some
namespace Rs
open Rc
theorem mine_has (L : List PRec) (o : List (List UInt8)) (t : Int) : (mine L o t).isEmpty = !Zn.has L o t := by
 have hp : ∀ r, Q o t r = ((r.type == t) && Nm.same r.owner o) := fun r => by
  unfold Q Nm.same
  rw [Bool.eq_iff_iff, Bool.and_eq_true, Bool.and_eq_true, beq_iff_eq, beq_iff_eq, beq_iff_eq, beq_iff_eq]
  exact ⟨fun ⟨a, b⟩ => ⟨a.symm, b.symm⟩, fun ⟨a, b⟩ => ⟨a.symm, b.symm⟩⟩
 have h := canon_of (L.filter (Q o t))
 rw [Bool.eq_iff_iff, Bool.not_eq_true', List.isEmpty_iff]
 constructor
 ·intro he
  cases hh : Zn.has L o t with
  | false => rfl
  | true =>
   unfold Zn.has at hh
   obtain ⟨r, hr, hq⟩ := List.any_eq_true.1 hh
   obtain ⟨z, hz, _⟩ := h.all r (List.mem_filter.2 ⟨hr, by rw [hp]; exact hq⟩)
   unfold mine at he
   rw [he] at hz; cases hz
 ·intro hh
  cases hm : mine L o t with
  | nil => rfl
  | cons x xs =>
   obtain ⟨y, hy, _⟩ := h.some x (by rw [show canon (L.filter (Q o t)) = x :: xs from hm]; exact List.mem_cons_self)
   have h1 := List.mem_filter.1 hy
   rw [hp] at h1
   unfold Zn.has at hh
   have : (L.any fun r => (r.type == t) && Nm.same r.owner o) = true := List.any_eq_true.2 ⟨y, h1.1, h1.2⟩
   rw [this] at hh; cases hh
end Rs
section
variable {w : World}
def CkOut (R : List PFl) (n : Nat) (v : Value) (W : World) : Prop := ∃ lf : List (ElF w), GRd 3 v (lf.map encF) W /\ Ck.Of (plF lf) R /\ lf.length <= n
theorem CkOut.below {R : List PFl} {n : Nat} {v : Value} {W W' : World} (h : CkOut (w := w) R n v W) (hb : Below W.heap.size W W') : CkOut (w := w) R n v W' := by
 obtain ⟨lf, h1, h2, h3⟩ := h
 exact ⟨lf, h1.below hb, h2, h3⟩
theorem CkOut.nil (W : World) : CkOut (w := w) [] 0 (.slice none 0 0) W := ⟨[], GRd.nil 3 W, Ck.Of.nil, Nat.le_refl _⟩
theorem CkOut.more {R : List PFl} {n m : Nat} {v : Value} {W : World} (h : CkOut (w := w) R n v W) (hm : n <= m) : CkOut (w := w) R m v W := by
 obtain ⟨lf, h1, h2, h3⟩ := h
 exact ⟨lf, h1, h2, by omega⟩
theorem putE_len (x : ElF w) : ∀ l : List (ElF w), (putE x l).length <= l.length + 1
 | [] => by simp [putE]
 | y :: L => by
  have ih := putE_len x L
  rw [putE]
  split
  ·simp only [List.length_cons]; omega
  ·split <;> simp
def AddR {w : World} (R : List PFl) (n : Nat) (W : World) (e : Ending) (W' : World) : Prop := ∃ v', e = .returned v' /\ CkOut (w := w) R n v' W' /\ Below W.heap.size W W'
theorem add_out {R : List PFl} {n : Nat} {v : Value} {W : World} (h : CkOut (w := w) R n v W) (hb : Below w.heap.size w W) (hn : n <= 1000) (k t : Int) (po : Option Addr) (no qo : Nat) (own : List (List UInt8)) (hr : Rd (.slice po no qo) own w) (nb : NB own) :
  Calls Tryz.prog 90 #[v, .agg #[.int .i64 k, .slice po no qo, .int .i64 t]] W (AddR (w := w) (R ++ [⟨k, own, t⟩]) (n + 1) W) := by
 obtain ⟨lf, h1, h2, h3⟩ := h
 refine (rAdd_any (w := w) v lf ⟨([.int .i64 k, .slice po no qo, .int .i64 t], ⟨k, own, t⟩), ⟨_, rfl, hr⟩, nb⟩ hb h1 (by omega)).mono ?_
 rintro e W' ⟨v', rfl, g, b⟩
 refine ⟨v', rfl, ⟨_, g, ?_, Nat.le_trans (putE_len _ _) (by omega)⟩, b⟩
 rw [plF_putE]
 exact h2.put _
def RTyN (n : Nat) (W : World) (e : Ending) (W' : World) : Prop := ∃ o cap, e = .returned (.slice o n cap) /\ Below W.heap.size W W'
set_option maxHeartbeats 8000000 in
theorem rCheck_any (zo vr : Value) (l : List (El w)) (o : List (List UInt8)) (hv : RecsRd vr (l.map (·.1)) w) (na : l.length <= 100) (ho : Rd zo o w) (no : NB o) :
  Calls Tryz.prog 42 #[.agg #[zo, vr]] w (CkZR o (plE l) w) := by
 obtain ⟨oo, co, rfl, _, _⟩ := ho.form
 obtain ⟨ov, cv, rfl⟩ : ∃ o cap, vr = .slice o l.length cap := by obtain ⟨_, o, cap, h, _⟩ := hv; exact ⟨o, cap, by rw [h, List.length_map]⟩
 obtain ⟨W1, hW1⟩ : ∃ W1, w.alloc (.cells #[.slice oo o.length co, .slice ov l.length cv] 33) = W1 := ⟨_, rfl⟩
 obtain ⟨hb1, hbk⟩ := zBox hW1
 have HB1 := Lib.hid hb1
 have HBK := Lib.hid hbk
 have HV := Lib.hid hv
 have HO := Lib.hid ho
 have NO := Lib.hid no
 have HHA : Hid (∀ (t : Int) W', Below W1.heap.size W1 W' -> Calls Tryz.prog 57 #[.agg #[.slice oo o.length co, .slice ov l.length cv], .slice oo o.length co, .int .i64 t] W' (Gives (.bool (Zn.has (plE l) o t)) W')) := fun t W' hW =>
  rHas_any oo o.length co _ _ l o t (below5 hb1 hW) (hv.kept (below5 hb1 hW)) (by omega) (ho.below (below5 hb1 hW)) no
 have HDA : Hid (∀ W', Below W1.heap.size W1 W' -> Calls Tryz.prog 68 #[.agg #[.slice oo o.length co, .slice ov l.length cv], .slice oo o.length co, .int .i64 6] W' (RDatR l o 6 W')) := fun W' hW =>
  rDatas_any oo o.length co _ _ l o 6 (below5 hb1 hW) (hv.kept (below5 hb1 hW)) (by omega) (ho.below (below5 hb1 hW)) no
 have HCZ : Hid (∀ W', Below W1.heap.size W1 W' -> W'.cell? ⟨w.heap.size, 0, none⟩ = some (.slice oo o.length co) /\ W'.cell? ⟨w.heap.size, 1, none⟩ = some (.slice ov l.length cv)) := fun W' hW => ⟨(hbk.below hW).cell 0, (hbk.below hW).cell 1⟩
 obtain ⟨h6, hh6⟩ : ∃ b, Zn.has (plE l) o 6 = b := ⟨_, rfl⟩
 obtain ⟨h2, hh2⟩ : ∃ b, Zn.has (plE l) o 2 = b := ⟨_, rfl⟩
 obtain ⟨nd, hnd⟩ : ∃ n, (Rs.datOf (Rs.mine (plE l) o 6)).length = n := ⟨_, rfl⟩
 have HAP : Hid (Ck.apexF o (plE l) = ((if h6 then [] else [⟨1, o, 6⟩]) ++ (if 1 < nd then [⟨2, o, 6⟩] else [])) ++ (if h2 then [] else [⟨3, o, 2⟩])) := by
  show _ = _
  unfold Ck.apexF Ck.apexL
  rw [Rs.mine_has, hh6, hh2, hnd, List.map_append, List.map_append, List.append_assoc]
  cases h6 <;> cases h2 <;> by_cases hn : 1 < nd <;> simp [hn]
 have HH6 := Lib.hid hh6
 have HH2 := Lib.hid hh2
 have HND := Lib.hid hnd
 obtain ⟨z0, z1⟩ := HCZ.out W1 (Below.refl _ _)
 clear hv ho no hb1 hbk hh6 hh2 hnd
 refine (callsIn_wide (n := 0)).1 ?_
 refine callsIn_of_wp Tryz.func42 rfl trivial ?_ rfl
 simp only [Tryz.ntmps42, List.size_toArray, List.length_cons, List.length_nil, Nat.reduceAdd, Nat.reduceSub, Array.replicate_succ, Array.replicate_zero, List.push_toArray, List.append_toArray, List.nil_append, List.cons_append]
 gi_wp2_with fail
 refine (callsIn_wide.2 (HHA.out 6 W1 (Below.refl _ _))).mono ?_
 rintro e9 W2 ⟨rfl, b2⟩
 rw [HH6.out]
 have HB2 := Lib.hid b2
 clear b2 z0 z1 hW1
 obtain ⟨z0, z1⟩ := HCZ.out W2 HB2.out
 gi_upto_if 13 with fail
 gi_cut [3, 12, 13] from 184 (fun v3 _ _ W => CkOut (w := w) (if h6 then [] else [⟨1, o, 6⟩]) 1 v3 W /\ Below W2.heap.size W2 W)
 case first =>
  cases h6 with
  | true =>
   gi_wp2_with fail
   gi_meet
   case rel => exact ⟨(CkOut.nil _).more (by omega), Below.refl _ _⟩
  | false =>
   have HAD := Lib.hid (add_out (CkOut.nil (w := w) W2) (below5 HB1.out HB2.out) (by omega) 1 6 oo o.length co o HO.out NO.out)
   gi_wp2_with fail
   refine (callsIn_wide.2 HAD.out).mono ?_
   rintro e9 W3 ⟨v', rfl, hO, b3⟩
   have HOX := Lib.hid hO
   have HBX := Lib.hid b3
   clear hO b3
   gi_wp2_with fail
   gi_meet
   case rel => exact ⟨HOX.out, HBX.out⟩
 case rest =>
 obtain ⟨hO, hb⟩ := hcut
 obtain ⟨W3, rfl⟩ : ∃ W, W = wc := ⟨_, rfl⟩
 have HO3 := Lib.hid hO
 have HB3 := Lib.hid (below5 HB2.out hb)
 clear hO hb z0 z1
 obtain ⟨z0, z1⟩ := HCZ.out W3 HB3.out
 gi_wp2_with fail
 refine (callsIn_wide.2 (HDA.out W3 HB3.out)).mono ?_
 rintro e9 W4 ⟨od, cd, d, rfl, _, hdp, _, b4⟩
 have hdl : d.length = nd := by rw [<- HND.out, <- hdp, plE_len]
 rw [hdl]
 have HO4 := Lib.hid (HO3.out.below b4)
 have HB4 := Lib.hid (below5 HB3.out b4)
 have HB34 := Lib.hid b4
 clear hdp hdl b4 z0 z1
 obtain ⟨z0, z1⟩ := HCZ.out W4 HB4.out
 gi_upto_if 24 with fail
 gi_cut [3, 24] from 184 (fun v3 _ W => CkOut (w := w) ((if h6 then [] else [⟨1, o, 6⟩]) ++ (if 1 < nd then [⟨2, o, 6⟩] else [])) 2 v3 W /\ Below W4.heap.size W4 W)
 case first =>
  by_cases hn : 1 < nd
  ·have hnz : (1 : Int) < (nd : Int) := by omega
   have hnd : decide (1 < nd) = true := decide_eq_true hn
   have hndz : decide ((1 : Int) < (nd : Int)) = true := decide_eq_true hnz
   have HAD := Lib.hid (add_out HO4.out (below5 HB1.out HB4.out) (by omega) 2 6 oo o.length co o HO.out NO.out)
   gi_wp2_with fail
   refine (callsIn_wide.2 HAD.out).mono ?_
   rintro e9 W5 ⟨v', rfl, hO, b3⟩
   have HOX := Lib.hid hO
   have HBX := Lib.hid b3
   clear hO b3
   gi_wp2_with fail
   gi_meet
   case rel => exact ⟨by rw [if_pos hn]; exact HOX.out, HBX.out⟩
  ·have hnz : ¬ (1 : Int) < (nd : Int) := by omega
   have hnd : decide (1 < nd) = false := decide_eq_false hn
   have hndz : decide ((1 : Int) < (nd : Int)) = false := decide_eq_false hnz
   gi_wp2_with fail
   gi_meet
   case rel => exact ⟨by rw [if_neg hn, List.append_nil]; exact HO4.out.more (by omega), Below.refl _ _⟩
 case rest =>
 obtain ⟨hO, hb⟩ := hcut
 obtain ⟨W5, rfl⟩ : ∃ W, W = wc := ⟨_, rfl⟩
 have HO5 := Lib.hid hO
 have HB5 := Lib.hid (below5 HB4.out hb)
 clear hO hb z0 z1
 obtain ⟨z0, z1⟩ := HCZ.out W5 HB5.out
 gi_wp2_with fail
 refine (callsIn_wide.2 (HHA.out 2 W5 HB5.out)).mono ?_
 rintro e9 W6 ⟨rfl, b6⟩
 rw [HH2.out]
 have HO6 := Lib.hid (HO5.out.below b6)
 have HB6 := Lib.hid (below5 HB5.out b6)
 clear b6 z0 z1
 obtain ⟨z0, z1⟩ := HCZ.out W6 HB6.out
 gi_upto_if 34 with fail
 gi_cut [3, 33, 34] from 184 (fun v3 _ _ W => CkOut (w := w) (Ck.apexF o (plE l)) 3 v3 W /\ Below W6.heap.size W6 W)
 case first =>
  cases h2 with
  | true =>
   gi_wp2_with fail
   gi_meet
   case rel => exact ⟨by rw [HAP.out]; have h := HO6.out.more (m := 3) (by omega); simpa using h, Below.refl _ _⟩
  | false =>
   have HAD := Lib.hid (add_out HO6.out (below5 HB1.out HB6.out) (by omega) 3 2 oo o.length co o HO.out NO.out)
   gi_wp2_with fail
   refine (callsIn_wide.2 HAD.out).mono ?_
   rintro e9 W7 ⟨v', rfl, hO, b3⟩
   have HOX := Lib.hid hO
   have HBX := Lib.hid b3
   clear hO b3
   gi_wp2_with fail
   gi_meet
   case rel => exact ⟨by rw [HAP.out]; exact HOX.out, HBX.out⟩
 case rest =>
 obtain ⟨hO, hb⟩ := hcut
 obtain ⟨W7, rfl⟩ : ∃ W, W = wc := ⟨_, rfl⟩
 have HO7 := Lib.hid hO
 have HB7 := Lib.hid (below5 HB6.out hb)
 clear hO hb z0 z1 HO3 HB3 HO4 HB4 HB34 HO5 HB5 HO6 HB6 HHA HDA HH6 HH2 HND HAP
 obtain ⟨z0, z1⟩ := HCZ.out W7 HB7.out
 have HST := Lib.hid (refSets_any (w0 := W7) (.slice ov l.length cv) l (below5 HB1.out HB7.out) (HV.out.kept (below5 HB1.out HB7.out)) (by omega))
 gi_wp2_with fail
 refine (callsIn_wide.2 HST.out).mono ?_
 rintro e9 W8 ⟨c, v8, hc, hcl, rfl, hsr, b8⟩
 obtain ⟨os, cs, rfl, hs1, hs2⟩ := hsr.form
 have HSR := Lib.hid hsr
 have HO8 := Lib.hid (HO7.out.below b8)
 have HB8 := Lib.hid (below5 HB7.out b8)
 have hgl := grp_len c
 have hgz : ((grp c).length : Int) <= 100 := by omega
 have hg100 : (grp c).length <= 100 := by omega
 have HGK : Hid (∀ k ∈ grp c, k.length <= 100) := fun k hk => by have := grp_mem_bound hk; omega
 have HG : Hid ((grp c).map plE = Rs.G (plE l)) := by show _ = _; rw [plE_grp, hc]
 clear hc hsr b8 hgl z0 z1 HST
 gi_wp2_with fail
 gi_loopw [3, 5] (fun u3 v5 W => ∃ (i : Nat) (v3 : Value), v3 = u3 /\ v5 = .int .i64 i /\ i <= (grp c).length /\ Hid (CkOut (w := w) (Ck.apexF o (plE l) ++ ((Rs.G (plE l)).take i).flatMap (Ck.ofG o (plE l))) (3 + 6 * i) v3 W) /\ Hid (Below W8.heap.size W8 W)) (fun _ v5 _ => (grp c).length - (intOf v5).toNat)
 case atStart => exact ⟨0, _, rfl, rfl, Nat.zero_le _, Lib.hid (by simpa using HO8.out), Lib.hid (Below.refl _ _)⟩
 case round =>
  obtain ⟨i, v3, rfl, rfl, hi, HOI, HBI⟩ := hrel
  by_cases hlt : i < (grp c).length
  case neg =>
   have hlz : ¬ ((i : Int) < ((grp c).length : Int)) := by omega
   have HFIN : Hid (Ck.apexF o (plE l) ++ ((Rs.G (plE l)).take i).flatMap (Ck.ofG o (plE l)) = Ck.raw o (plE l)) := by
    show _ = _
    rw [List.take_of_length_le (by rw [<- HG.out, List.length_map]; omega)]; rfl
   gi_wp2_with fail
   go_ret
   obtain ⟨lf, g1, g2, g3⟩ := HOI.out
   exact ⟨_, lf, rfl, g1, by rw [<- HFIN.out]; exact g2, by omega, below5 HB1.out (below5 HB8.out HBI.out)⟩
  case pos =>
  have hlz : (i : Int) < ((grp c).length : Int) := by omega
  obtain ⟨wo, rfl⟩ : ∃ wo, wo = wr := ⟨_, rfl⟩
  obtain ⟨ga, rfl, x, xs, po, no', qo, od, cd, e1, e3, e4, e5⟩ := HSR.out.at i hlt
  obtain ⟨e, he⟩ : ∃ e, ga.add (i * 4) = e := ⟨_, rfl⟩
  obtain ⟨n, hn⟩ : ∃ n, (grp c)[i].length = n := ⟨_, rfl⟩
  obtain ⟨tt, htt⟩ : ∃ tt, Rs.ttl x.1.2 (plE (grp c)[i]) = tt := ⟨_, rfl⟩
  obtain ⟨t, ht⟩ : ∃ t, x.1.2.type = t := ⟨_, rfl⟩
  obtain ⟨own, how⟩ : ∃ own, x.1.2.owner = own := ⟨_, rfl⟩
  have nbw : NB own := by rw [<- how]; exact x.2.2.owner
  obtain ⟨q0, q1, q2, q3⟩ := e5 wo HBI.out
  rw [he] at q0 q1 q2 q3
  rw [hn] at q3
  rw [htt] at q2
  rw [ht] at q1
  rw [how] at e3
  have hn100 : n <= 100 := by rw [<- hn]; exact HGK.out _ (List.getElem_mem _)
  have hnz100 : (n : Int) <= 100 := by omega
  obtain ⟨Wa, hWa⟩ : ∃ Wa, wo.alloc (.cells #[.slice po no' qo, .int .i64 t, .int .u32 (tt : Int), .slice od n cd] 173) = Wa := ⟨_, rfl⟩
  have hba : Below wo.heap.size wo Wa := by rw [<- hWa]; exact (Below.refl _ _).alloc (Nat.le_refl _) _
  have hka : Blk wo.heap.size #[.slice po no' qo, .int .i64 t, .int .u32 (tt : Int), .slice od n cd] 173 Wa := by rw [<- hWa]; exact Blk.new wo _ _
  have HBA1 : Hid (Below W1.heap.size W1 Wa) := below5 HB8.out (below5 HBI.out hba)
  have HCS : Hid (∀ W', Below Wa.heap.size Wa W' -> W'.cell? ⟨w.heap.size, 0, none⟩ = some (.slice oo o.length co) /\ W'.cell? ⟨w.heap.size, 1, none⟩ = some (.slice ov l.length cv) /\ W'.cell? ⟨wo.heap.size, 0, none⟩ = some (.slice po no' qo) /\ W'.cell? ⟨wo.heap.size, 1, none⟩ = some (.int .i64 t) /\ W'.cell? ⟨wo.heap.size, 3, none⟩ = some (.slice od n cd)) := fun W' hW => by
   obtain ⟨a, b⟩ := HCZ.out W' (below5 HBA1.out hW)
   exact ⟨a, b, (hka.below hW).cell 0, (hka.below hW).cell 1, (hka.below hW).cell 3⟩
  obtain ⟨wz, hwz⟩ : ∃ z, Zn.wher o (plE l) own = z := ⟨_, rfl⟩
  obtain ⟨sm, hsm⟩ : ∃ b, Nm.same own o = b := ⟨_, rfl⟩
  obtain ⟨nt, hnt⟩ : ∃ n, (Rs.types (plE l) own).length = n := ⟨_, rfl⟩
  obtain ⟨cb, hcb⟩ : ∃ b, Ck.rcov o (plE l) own = b := ⟨_, rfl⟩
  obtain ⟨wi, hwi⟩ : ∃ b, Nm.wild own = b := ⟨_, rfl⟩
  have hw1 : ∀ {W'}, Below Wa.heap.size Wa W' -> Below w.heap.size w W' := fun hW => below5 HB1.out (below5 HBA1.out hW)
  have HWH : Hid (∀ W', Below Wa.heap.size Wa W' -> Calls Tryz.prog 22 #[.agg #[.slice oo o.length co, .slice ov l.length cv], .slice po no' qo] W' (Gives (.int .i64 wz) W')) := fun W' hW => by
   have h := rWhere_any (w0 := W') (.slice oo o.length co) (.slice ov l.length cv) (.slice po no' qo) l o own (hw1 hW) (HV.out.kept (hw1 hW)) (by omega) (HO.out.below (hw1 hW)) NO.out (e3.below (hw1 hW)) nbw
   rw [hwz] at h; exact h
  have HSM : Hid (∀ W', Below Wa.heap.size Wa W' -> Calls Tryz.prog 63 #[.slice po no' qo, .slice oo o.length co] W' (Gives (.bool sm) W')) := fun W' hW => by
   have h := refSame_any (.slice po no' qo) (.slice oo o.length co) own o W' (e3.below (hw1 hW)) (HO.out.below (hw1 hW)) nbw NO.out
   rw [hsm] at h; exact h
  have HTY : Hid (∀ W', Below Wa.heap.size Wa W' -> Calls Tryz.prog 92 #[.slice ov l.length cv, .slice po no' qo] W' (RTyN nt W')) := fun W' hW => by
   refine (refTypes_any (w0 := W') (.slice ov l.length cv) (.slice po no' qo) l own (hw1 hW) (HV.out.kept (hw1 hW)) (by omega) (e3.below (hw1 hW)) nbw).mono ?_
   rintro e w' ⟨c, v', h1, h2, rfl, h3, h4⟩
   rw [tysK_types h1] at h3
   obtain ⟨o', cap', rfl, h5, h6⟩ := h3.form
   rw [List.length_map, hnt]
   exact ⟨o', cap', rfl, h4⟩
  have HCV : Hid (∀ W', Below Wa.heap.size Wa W' -> Calls Tryz.prog 93 #[.agg #[.slice oo o.length co, .slice ov l.length cv], .slice po no' qo] W' (Gives (.bool cb) W')) := fun W' hW => by
   have h := rCovered_any (w0 := W') (.slice oo o.length co) (.slice ov l.length cv) (.slice po no' qo) l o own (hw1 hW) (HV.out.kept (hw1 hW)) (by omega) (HO.out.below (hw1 hW)) NO.out (e3.below (hw1 hW)) nbw
   rw [hcb] at h; exact h
  have HWI : Hid (∀ W', Below Wa.heap.size Wa W' -> Calls Tryz.prog 94 #[.slice po no' qo] W' (Gives (.bool wi) W')) := fun W' hW => by
   have h := refWild_any (.slice po no' qo) own W' (e3.below (hw1 hW)) nbw
   rw [hwi] at h; exact h
  have HNT : Hid (nt <= 1000) := by show _ <= _; rw [<- hnt]; exact Nat.le_trans (types_len' (plE l) own) (by rw [plE_len]; omega)
  have hntz : (nt : Int) <= 1000 := by have := HNT.out; omega
  obtain ⟨t1, ht1⟩ : ∃ b, (t == 1) = b := ⟨_, rfl⟩
  obtain ⟨t28, ht28⟩ : ∃ b, (t == 28) = b := ⟨_, rfl⟩
  obtain ⟨t6, ht6⟩ : ∃ b, (t == 6) = b := ⟨_, rfl⟩
  obtain ⟨t5, ht5⟩ : ∃ b, (t == 5) = b := ⟨_, rfl⟩
  obtain ⟨t39, ht39⟩ : ∃ b, (t == 39) = b := ⟨_, rfl⟩
  obtain ⟨t2, ht2⟩ : ∃ b, (t == 2) = b := ⟨_, rfl⟩
  obtain ⟨z0', hz0⟩ : ∃ b, (wz == 0) = b := ⟨_, rfl⟩
  obtain ⟨z1', hz1⟩ : ∃ b, (wz == 1) = b := ⟨_, rfl⟩
  obtain ⟨z2', hz2⟩ : ∃ b, (wz == 2) = b := ⟨_, rfl⟩
  obtain ⟨z3', hz3⟩ : ∃ b, (wz == 3) = b := ⟨_, rfl⟩
  obtain ⟨k4, hk4⟩ : ∃ b, (z0' || (t6 && !sm)) = b := ⟨_, rfl⟩
  obtain ⟨k5, hk5⟩ : ∃ b, (t5 && decide (1 < nt)) = b := ⟨_, rfl⟩
  obtain ⟨k6, hk6⟩ : ∃ b, ((t5 || t39) && decide (1 < n)) = b := ⟨_, rfl⟩
  obtain ⟨k7, hk7⟩ : ∃ b, ((z2' && (!(t1 || t28) && !t2)) || (!z2' && (z3' && !(t1 || t28)))) = b := ⟨_, rfl⟩
  obtain ⟨k8, hk8⟩ : ∃ b, (z1' && cb) = b := ⟨_, rfl⟩
  obtain ⟨k9, hk9⟩ : ∃ b, (t2 && wi) = b := ⟨_, rfl⟩
  have HKI : Hid (Ck.kinds o (plE l) own t n = Ck.addK (Ck.addK (Ck.addK (Ck.addK (Ck.addK (Ck.addK [] 4 k4) 5 k5) 6 k6) 7 k7) 8 k8) 9 k9) := by
   show _ = _
   have h8 : ((wz == 1) && Ck.cov o (plE l) own) = k8 := by
    rw [<- hk8, <- hz1]
    by_cases h : wz = 1
    ·rw [<- hcb, Ck.cov_rcov (by rw [hwz]; exact h)]
    ·rw [beq_eq_false_iff_ne.2 h]; rfl
   have h7 : (if z2' = true then !(t1 || t28) && !t2 else if z3' = true then !(t1 || t28) else false) = k7 := by
    rw [<- hk7]
    cases z2' <;> cases z3' <;> simp
   unfold Ck.kinds Ck.hidden Ck.addr Ck.wild
   rw [hwz, hsm, hnt, hwi, h8, hz0, hz2, hz3, ht6, ht5, ht39, ht2, ht1, ht28, hk4, hk5, hk6, h7, hk9]
  have HDR : Hid ((Rs.G (plE l)).take (i + 1) = (Rs.G (plE l)).take i ++ [plE (grp c)[i]]) := by
   show _ = _
   have hl : i < (Rs.G (plE l)).length := by rw [<- HG.out, List.length_map]; exact hlt
   rw [List.take_succ_eq_append_getElem hl]
   congr 2
   have := List.getElem_of_eq HG.out.symm hl
   rw [this, List.getElem_map]
  have HOG : Hid (Ck.ofG o (plE l) (plE (grp c)[i]) = (Ck.kinds o (plE l) own t n).map fun k => ⟨k, own, t⟩) := by
   show _ = _
   rw [<- hn, e1, <- ht, <- how]
   show (Ck.kinds o (plE l) x.1.2.owner x.1.2.type (plE (x :: xs)).length).map _ = _
   rw [plE_len]
  have HBT1 := Lib.hid ht1
  have HBT28 := Lib.hid ht28
  have HBT6 := Lib.hid ht6
  have HBT5 := Lib.hid ht5
  have HBT39 := Lib.hid ht39
  have HBT2 := Lib.hid ht2
  have HBZ0 := Lib.hid hz0
  have HBZ1 := Lib.hid hz1
  have HBZ2 := Lib.hid hz2
  have HBZ3 := Lib.hid hz3
  have HK4 := Lib.hid hk4
  have HK5 := Lib.hid hk5
  have HK6 := Lib.hid hk6
  have HK7 := Lib.hid hk7
  have HK8 := Lib.hid hk8
  have HK9 := Lib.hid hk9
  have HE3 := Lib.hid e3
  have NBW := Lib.hid nbw
  have HWW : Hid (∀ W', Below Wa.heap.size Wa W' -> Below w.heap.size w W') := fun _ hW => hw1 hW
  obtain ⟨R0, hR0⟩ : ∃ R, Ck.apexF o (plE l) ++ ((Rs.G (plE l)).take i).flatMap (Ck.ofG o (plE l)) = R := ⟨_, rfl⟩
  rw [hR0] at HOI
  have HR0 := Lib.hid hR0
  have HOA := Lib.hid (HOI.out.below hba)
  have HBAO := Lib.hid hba
  clear e1 e4 e5 hn htt ht how hwz hsm hnt hcb hwi ht1 ht28 ht6 ht5 ht39 ht2 hz0 hz1 hz2 hz3 hk4 hk5 hk6 hk7 hk8 hk9 e3 nbw hw1 hba hka hR0 HOI
  obtain ⟨y0, y1, s0, s1, s3⟩ := HCS.out Wa (Below.refl _ _)
  gi_wp2_with fail
  refine (callsIn_wide.2 (HWH.out Wa (Below.refl _ _))).mono ?_
  rintro e9 Wb ⟨rfl, b9⟩
  have HBB := Lib.hid b9
  have HOB := Lib.hid (HOA.out.below b9)
  clear b9 y0 y1 s0 s1 s3 q0 q1 q2 q3 hWa he
  obtain ⟨y0, y1, s0, s1, s3⟩ := HCS.out Wb HBB.out
  gi_upto_region 14 with fail
  gi_cut [8] from 184 (fun v8 W => v8 = .bool (t1 || t28) /\ Wb = W)
  case first =>
   have e1 := HBT1.out
   have e2 := HBT28.out
   clear HBT1 HBT28
   cases t1 <;> cases t28
   all_goals
    gi_wp2_with fail
    all_goals try (first | (rename_i h _; simp [undef] at h; done) | (rename_i h _ _ _; simp [undef] at h; done) | (rename_i h _ _ _ _; simp [undef] at h; done) | (rename_i h _ _; simp [undef] at h; done))
    gi_meet
    case rel => exact ⟨rfl, rfl⟩
  case rest =>
  obtain ⟨rfl, rfl⟩ := hcut
  replace HOB : Hid (CkOut (w := w) (R0 ++ ([] : List Int).map fun k => ⟨k, own, t⟩) (3 + 6 * i) v3 Wb) := Lib.hid (by rw [List.map_nil, List.append_nil]; exact HOB.out)
  gi_upto_region 15 with fail
  gi_cut [79] from 184 (fun va W => va = .bool k4 /\ Below Wb.heap.size Wb W)
  case first =>
   have e0 := HBZ0.out
   have e6 := HBT6.out
   clear HBZ0 HBT6
   cases z0' with
   | true =>
    gi_wp2_with fail
    all_goals try (first | (rename_i h _; simp [undef] at h; done) | (rename_i h _ _ _; simp [undef] at h; done) | (rename_i h _ _ _ _; simp [undef] at h; done) | (rename_i h _ _; simp [undef] at h; done))
    gi_meet
    case rel => exact ⟨by rw [<- HK4.out]; rfl, Below.refl _ _⟩
   | false =>
    cases t6 with
    | false =>
     gi_wp2_with fail
     all_goals try (first | (rename_i h _; simp [undef] at h; done) | (rename_i h _ _ _; simp [undef] at h; done) | (rename_i h _ _ _ _; simp [undef] at h; done) | (rename_i h _ _; simp [undef] at h; done))
     gi_meet
     case rel => exact ⟨by rw [<- HK4.out]; rfl, Below.refl _ _⟩
    | true =>
     gi_wp2_with fail
     all_goals try (first | (rename_i h _; simp [undef] at h; done) | (rename_i h _ _ _; simp [undef] at h; done) | (rename_i h _ _ _ _; simp [undef] at h; done) | (rename_i h _ _; simp [undef] at h; done))
     refine (callsIn_wide.2 (HSM.out Wb HBB.out)).mono ?_
     rintro e9 Wz ⟨rfl, b9⟩
     have HBX := Lib.hid b9
     clear b9
     cases sm with
     | true =>
      gi_wp2_with fail
      all_goals try (first | (rename_i h _; simp [undef] at h; done) | (rename_i h _ _ _; simp [undef] at h; done) | (rename_i h _ _ _ _; simp [undef] at h; done) | (rename_i h _ _; simp [undef] at h; done))
      gi_meet
      case rel => exact ⟨by rw [<- HK4.out]; rfl, HBX.out⟩
     | false =>
      gi_wp2_with fail
      all_goals try (first | (rename_i h _; simp [undef] at h; done) | (rename_i h _ _ _; simp [undef] at h; done) | (rename_i h _ _ _ _; simp [undef] at h; done) | (rename_i h _ _; simp [undef] at h; done))
      gi_meet
      case rel => exact ⟨by rw [<- HK4.out]; rfl, HBX.out⟩
  case rest =>
  obtain ⟨rfl, hb⟩ := hcut
  obtain ⟨Wc, rfl⟩ : ∃ W, W = wc := ⟨_, rfl⟩
  replace HOB := Lib.hid (HOB.out.below hb)
  replace HBB := Lib.hid (below5 HBB.out hb)
  clear hb y0 y1 s0 s1 s3
  obtain ⟨y0, y1, s0, s1, s3⟩ := HCS.out Wc HBB.out
  gi_upto_if 79 with fail
  gi_cut [3, 79] from 184 (fun v3 _ W => CkOut (w := w) (R0 ++ (Ck.addK ([] : List Int) 4 k4).map fun k => ⟨k, own, t⟩) (3 + 6 * i + 1) v3 W /\ Below Wc.heap.size Wc W)
  case first =>
   cases k4 with
   | true =>
    have HAD := Lib.hid (add_out HOB.out (HWW.out _ HBB.out) (by omega) 4 t po no' qo own HE3.out NBW.out)
    gi_wp2_with fail
    refine (callsIn_wide.2 HAD.out).mono ?_
    rintro e9 Wz ⟨v', rfl, hO, b3⟩
    have HOX := Lib.hid hO
    have HBX := Lib.hid b3
    clear hO b3
    gi_wp2_with fail
    gi_meet
    case rel => exact ⟨(by have h := HOX.out; rw [List.append_assoc] at h; simpa [Ck.addK] using h), HBX.out⟩
   | false =>
    gi_wp2_with fail
    gi_meet
    case rel => exact ⟨HOB.out.more (by omega), Below.refl _ _⟩
  case rest =>
  obtain ⟨hO, hb⟩ := hcut
  obtain ⟨Wd, rfl⟩ : ∃ W, W = wc := ⟨_, rfl⟩
  replace HOB := Lib.hid hO
  replace HBB := Lib.hid (below5 HBB.out hb)
  clear hO hb y0 y1 s0 s1 s3
  obtain ⟨y0, y1, s0, s1, s3⟩ := HCS.out Wd HBB.out
  gi_upto_region 17 with fail
  gi_cut [98] from 184 (fun va W => va = .bool k5 /\ Below Wd.heap.size Wd W)
  case first =>
   have e5 := HBT5.out
   clear HBT5
   cases t5 with
   | false =>
    gi_wp2_with fail
    all_goals try (first | (rename_i h _; simp [undef] at h; done) | (rename_i h _ _ _; simp [undef] at h; done) | (rename_i h _ _ _ _; simp [undef] at h; done) | (rename_i h _ _; simp [undef] at h; done))
    gi_meet
    case rel => exact ⟨by rw [<- HK5.out]; rfl, Below.refl _ _⟩
   | true =>
    gi_wp2_with fail
    all_goals try (first | (rename_i h _; simp [undef] at h; done) | (rename_i h _ _ _; simp [undef] at h; done) | (rename_i h _ _ _ _; simp [undef] at h; done) | (rename_i h _ _; simp [undef] at h; done))
    refine (callsIn_wide.2 (HTY.out Wd HBB.out)).mono ?_
    rintro e9 Wz ⟨ot, ct, rfl, b9⟩
    have HBX := Lib.hid b9
    clear b9
    by_cases hl1 : 1 < nt
    ·have hlz1 : (1 : Int) < (nt : Int) := by omega
     have hld : decide (1 < nt) = true := decide_eq_true hl1
     have hldz : decide ((1 : Int) < (nt : Int)) = true := decide_eq_true hlz1
     have HLD := Lib.hid hld
     gi_wp2_with fail
     all_goals try (first | (rename_i h _; simp [undef] at h; done) | (rename_i h _ _ _; simp [undef] at h; done) | (rename_i h _ _ _ _; simp [undef] at h; done) | (rename_i h _ _; simp [undef] at h; done))
     gi_meet
     case rel => exact ⟨by rw [<- HK5.out, HLD.out]; rfl, HBX.out⟩
    ·have hlz1 : ¬ (1 : Int) < (nt : Int) := by omega
     have hld : decide (1 < nt) = false := decide_eq_false hl1
     have hldz : decide ((1 : Int) < (nt : Int)) = false := decide_eq_false hlz1
     have HLD := Lib.hid hld
     gi_wp2_with fail
     all_goals try (first | (rename_i h _; simp [undef] at h; done) | (rename_i h _ _ _; simp [undef] at h; done) | (rename_i h _ _ _ _; simp [undef] at h; done) | (rename_i h _ _; simp [undef] at h; done))
     gi_meet
     case rel => exact ⟨by rw [<- HK5.out, HLD.out]; rfl, HBX.out⟩
  case rest =>
  obtain ⟨rfl, hb⟩ := hcut
  obtain ⟨We, rfl⟩ : ∃ W, W = wc := ⟨_, rfl⟩
  replace HOB := Lib.hid (HOB.out.below hb)
  replace HBB := Lib.hid (below5 HBB.out hb)
  clear hb y0 y1 s0 s1 s3
  obtain ⟨y0, y1, s0, s1, s3⟩ := HCS.out We HBB.out
  gi_upto_if 98 with fail
  gi_cut [3, 98] from 184 (fun v3 _ W => CkOut (w := w) (R0 ++ (Ck.addK (Ck.addK ([] : List Int) 4 k4) 5 k5).map fun k => ⟨k, own, t⟩) (3 + 6 * i + 2) v3 W /\ Below We.heap.size We W)
  case first =>
   cases k5 with
   | true =>
    have HAD := Lib.hid (add_out HOB.out (HWW.out _ HBB.out) (by omega) 5 t po no' qo own HE3.out NBW.out)
    gi_wp2_with fail
    refine (callsIn_wide.2 HAD.out).mono ?_
    rintro e9 Wz ⟨v', rfl, hO, b3⟩
    have HOX := Lib.hid hO
    have HBX := Lib.hid b3
    clear hO b3
    gi_wp2_with fail
    gi_meet
    case rel => exact ⟨(by have h := HOX.out; rw [List.append_assoc] at h; simpa [Ck.addK] using h), HBX.out⟩
   | false =>
    gi_wp2_with fail
    gi_meet
    case rel => exact ⟨HOB.out.more (by omega), Below.refl _ _⟩
  case rest =>
  obtain ⟨hO, hb⟩ := hcut
  obtain ⟨Wf, rfl⟩ : ∃ W, W = wc := ⟨_, rfl⟩
  replace HOB := Lib.hid hO
  replace HBB := Lib.hid (below5 HBB.out hb)
  clear hO hb y0 y1 s0 s1 s3
  obtain ⟨y0, y1, s0, s1, s3⟩ := HCS.out Wf HBB.out
  gi_upto_region 19 with fail
  gi_cut [119] from 184 (fun va W => va = .bool k6 /\ Below Wf.heap.size Wf W)
  case first =>
   have e5 := HBT5.out
   have e39 := HBT39.out
   clear HBT5 HBT39
   by_cases hl1 : 1 < n
   ·have hlz1 : (1 : Int) < (n : Int) := by omega
    have hld : decide (1 < n) = true := decide_eq_true hl1
    have hldz : decide ((1 : Int) < (n : Int)) = true := decide_eq_true hlz1
    have HLD := Lib.hid hld
    cases t5 <;> cases t39
    all_goals
     gi_wp2_with fail
     all_goals try (first | (rename_i h _; simp [undef] at h; done) | (rename_i h _ _ _; simp [undef] at h; done) | (rename_i h _ _ _ _; simp [undef] at h; done) | (rename_i h _ _; simp [undef] at h; done))
     gi_meet
     case rel => exact ⟨by rw [<- HK6.out, HLD.out]; rfl, Below.refl _ _⟩
   ·have hlz1 : ¬ (1 : Int) < (n : Int) := by omega
    have hld : decide (1 < n) = false := decide_eq_false hl1
    have hldz : decide ((1 : Int) < (n : Int)) = false := decide_eq_false hlz1
    have HLD := Lib.hid hld
    cases t5 <;> cases t39
    all_goals
     gi_wp2_with fail
     all_goals try (first | (rename_i h _; simp [undef] at h; done) | (rename_i h _ _ _; simp [undef] at h; done) | (rename_i h _ _ _ _; simp [undef] at h; done) | (rename_i h _ _; simp [undef] at h; done))
     gi_meet
     case rel => exact ⟨by rw [<- HK6.out, HLD.out]; rfl, Below.refl _ _⟩
  case rest =>
  obtain ⟨rfl, hb⟩ := hcut
  obtain ⟨Wg, rfl⟩ : ∃ W, W = wc := ⟨_, rfl⟩
  replace HOB := Lib.hid (HOB.out.below hb)
  replace HBB := Lib.hid (below5 HBB.out hb)
  clear hb y0 y1 s0 s1 s3
  obtain ⟨y0, y1, s0, s1, s3⟩ := HCS.out Wg HBB.out
  gi_upto_if 119 with fail
  gi_cut [3, 119] from 184 (fun v3 _ W => CkOut (w := w) (R0 ++ (Ck.addK (Ck.addK (Ck.addK ([] : List Int) 4 k4) 5 k5) 6 k6).map fun k => ⟨k, own, t⟩) (3 + 6 * i + 3) v3 W /\ Below Wg.heap.size Wg W)
  case first =>
   cases k6 with
   | true =>
    have HAD := Lib.hid (add_out HOB.out (HWW.out _ HBB.out) (by omega) 6 t po no' qo own HE3.out NBW.out)
    gi_wp2_with fail
    refine (callsIn_wide.2 HAD.out).mono ?_
    rintro e9 Wz ⟨v', rfl, hO, b3⟩
    have HOX := Lib.hid hO
    have HBX := Lib.hid b3
    clear hO b3
    gi_wp2_with fail
    gi_meet
    case rel => exact ⟨(by have h := HOX.out; rw [List.append_assoc] at h; simpa [Ck.addK] using h), HBX.out⟩
   | false =>
    gi_wp2_with fail
    gi_meet
    case rel => exact ⟨HOB.out.more (by omega), Below.refl _ _⟩
  case rest =>
  obtain ⟨hO, hb⟩ := hcut
  obtain ⟨Wh, rfl⟩ : ∃ W, W = wc := ⟨_, rfl⟩
  replace HOB := Lib.hid hO
  replace HBB := Lib.hid (below5 HBB.out hb)
  clear hO hb y0 y1 s0 s1 s3
  obtain ⟨y0, y1, s0, s1, s3⟩ := HCS.out Wh HBB.out
  gi_upto_region 21 with fail
  gi_cut [145, 8] from 184 (fun va _ W => va = .bool k7 /\ Below Wh.heap.size Wh W)
  case first =>
   have e2 := HBZ2.out
   have e3 := HBZ3.out
   have e1 := HBT2.out
   obtain ⟨ad, had⟩ : ∃ b, (t1 || t28) = b := ⟨_, rfl⟩
   rw [had]
   have HK7' : Hid (((z2' && (!ad && !t2)) || (!z2' && (z3' && !ad))) = k7) := by show _ = _; rw [<- had]; exact HK7.out
   clear HK7 had HBZ2 HBZ3 HBT2
   have h23 : ¬ (z2' = true /\ z3' = true) := by
    rintro ⟨rfl, rfl⟩
    rw [beq_iff_eq] at e2 e3
    omega
   cases z2' <;> cases z3' <;> cases ad <;> cases t2
   all_goals try (exact absurd ⟨rfl, rfl⟩ h23)
   all_goals
    clear h23
    first | (have e6 : (t != 2) = false := by rw [bne, e1]; rfl) | (have e6 : (t != 2) = true := by rw [bne, e1]; rfl)
    gi_wp2_with fail
    all_goals try (first | (rename_i h _; simp [undef] at h; done) | (rename_i h _ _ _; simp [undef] at h; done) | (rename_i h _ _ _ _; simp [undef] at h; done) | (rename_i h _ _; simp [undef] at h; done))
    gi_meet
    case rel => exact ⟨by rw [<- HK7'.out]; rfl, Below.refl _ _⟩
  case rest =>
  obtain ⟨rfl, hb⟩ := hcut
  obtain ⟨Wi, rfl⟩ : ∃ W, W = wc := ⟨_, rfl⟩
  replace HOB := Lib.hid (HOB.out.below hb)
  replace HBB := Lib.hid (below5 HBB.out hb)
  clear hb y0 y1 s0 s1 s3
  obtain ⟨y0, y1, s0, s1, s3⟩ := HCS.out Wi HBB.out
  gi_upto_if 145 with fail
  gi_cut [3, 145] from 184 (fun v3 _ W => CkOut (w := w) (R0 ++ (Ck.addK (Ck.addK (Ck.addK (Ck.addK ([] : List Int) 4 k4) 5 k5) 6 k6) 7 k7).map fun k => ⟨k, own, t⟩) (3 + 6 * i + 4) v3 W /\ Below Wi.heap.size Wi W)
  case first =>
   cases k7 with
   | true =>
    have HAD := Lib.hid (add_out HOB.out (HWW.out _ HBB.out) (by omega) 7 t po no' qo own HE3.out NBW.out)
    gi_wp2_with fail
    refine (callsIn_wide.2 HAD.out).mono ?_
    rintro e9 Wz ⟨v', rfl, hO, b3⟩
    have HOX := Lib.hid hO
    have HBX := Lib.hid b3
    clear hO b3
    gi_wp2_with fail
    gi_meet
    case rel => exact ⟨(by have h := HOX.out; rw [List.append_assoc] at h; simpa [Ck.addK] using h), HBX.out⟩
   | false =>
    gi_wp2_with fail
    gi_meet
    case rel => exact ⟨HOB.out.more (by omega), Below.refl _ _⟩
  case rest =>
  obtain ⟨hO, hb⟩ := hcut
  obtain ⟨Wj, rfl⟩ : ∃ W, W = wc := ⟨_, rfl⟩
  replace HOB := Lib.hid hO
  replace HBB := Lib.hid (below5 HBB.out hb)
  clear hO hb y0 y1 s0 s1 s3
  obtain ⟨y0, y1, s0, s1, s3⟩ := HCS.out Wj HBB.out
  gi_upto_region 23 with fail
  gi_cut [160] from 184 (fun va W => va = .bool k8 /\ Below Wj.heap.size Wj W)
  case first =>
   have e1 := HBZ1.out
   clear HBZ1
   cases z1' with
   | false =>
    gi_wp2_with fail
    all_goals try (first | (rename_i h _; simp [undef] at h; done) | (rename_i h _ _ _; simp [undef] at h; done) | (rename_i h _ _ _ _; simp [undef] at h; done) | (rename_i h _ _; simp [undef] at h; done))
    gi_meet
    case rel => exact ⟨by rw [<- HK8.out]; rfl, Below.refl _ _⟩
   | true =>
    gi_wp2_with fail
    all_goals try (first | (rename_i h _; simp [undef] at h; done) | (rename_i h _ _ _; simp [undef] at h; done) | (rename_i h _ _ _ _; simp [undef] at h; done) | (rename_i h _ _; simp [undef] at h; done))
    refine (callsIn_wide.2 (HCV.out Wj HBB.out)).mono ?_
    rintro e9 Wz ⟨rfl, b9⟩
    have HBX := Lib.hid b9
    clear b9
    gi_wp2_with fail
    all_goals try (first | (rename_i h _; simp [undef] at h; done) | (rename_i h _ _ _; simp [undef] at h; done) | (rename_i h _ _ _ _; simp [undef] at h; done) | (rename_i h _ _; simp [undef] at h; done))
    gi_meet
    case rel => exact ⟨by rw [<- HK8.out]; rfl, HBX.out⟩
  case rest =>
  obtain ⟨rfl, hb⟩ := hcut
  obtain ⟨Wk, rfl⟩ : ∃ W, W = wc := ⟨_, rfl⟩
  replace HOB := Lib.hid (HOB.out.below hb)
  replace HBB := Lib.hid (below5 HBB.out hb)
  clear hb y0 y1 s0 s1 s3
  obtain ⟨y0, y1, s0, s1, s3⟩ := HCS.out Wk HBB.out
  gi_upto_if 160 with fail
  gi_cut [3, 160] from 184 (fun v3 _ W => CkOut (w := w) (R0 ++ (Ck.addK (Ck.addK (Ck.addK (Ck.addK (Ck.addK ([] : List Int) 4 k4) 5 k5) 6 k6) 7 k7) 8 k8).map fun k => ⟨k, own, t⟩) (3 + 6 * i + 5) v3 W /\ Below Wk.heap.size Wk W)
  case first =>
   cases k8 with
   | true =>
    have HAD := Lib.hid (add_out HOB.out (HWW.out _ HBB.out) (by omega) 8 t po no' qo own HE3.out NBW.out)
    gi_wp2_with fail
    refine (callsIn_wide.2 HAD.out).mono ?_
    rintro e9 Wz ⟨v', rfl, hO, b3⟩
    have HOX := Lib.hid hO
    have HBX := Lib.hid b3
    clear hO b3
    gi_wp2_with fail
    gi_meet
    case rel => exact ⟨(by have h := HOX.out; rw [List.append_assoc] at h; simpa [Ck.addK] using h), HBX.out⟩
   | false =>
    gi_wp2_with fail
    gi_meet
    case rel => exact ⟨HOB.out.more (by omega), Below.refl _ _⟩
  case rest =>
  obtain ⟨hO, hb⟩ := hcut
  obtain ⟨Wl, rfl⟩ : ∃ W, W = wc := ⟨_, rfl⟩
  replace HOB := Lib.hid hO
  replace HBB := Lib.hid (below5 HBB.out hb)
  clear hO hb y0 y1 s0 s1 s3
  obtain ⟨y0, y1, s0, s1, s3⟩ := HCS.out Wl HBB.out
  gi_upto_region 25 with fail
  gi_cut [175] from 184 (fun va W => va = .bool k9 /\ Below Wl.heap.size Wl W)
  case first =>
   have e2 := HBT2.out
   clear HBT2
   cases t2 with
   | false =>
    gi_wp2_with fail
    all_goals try (first | (rename_i h _; simp [undef] at h; done) | (rename_i h _ _ _; simp [undef] at h; done) | (rename_i h _ _ _ _; simp [undef] at h; done) | (rename_i h _ _; simp [undef] at h; done))
    gi_meet
    case rel => exact ⟨by rw [<- HK9.out]; rfl, Below.refl _ _⟩
   | true =>
    gi_wp2_with fail
    all_goals try (first | (rename_i h _; simp [undef] at h; done) | (rename_i h _ _ _; simp [undef] at h; done) | (rename_i h _ _ _ _; simp [undef] at h; done) | (rename_i h _ _; simp [undef] at h; done))
    refine (callsIn_wide.2 (HWI.out Wl HBB.out)).mono ?_
    rintro e9 Wz ⟨rfl, b9⟩
    have HBX := Lib.hid b9
    clear b9
    gi_wp2_with fail
    all_goals try (first | (rename_i h _; simp [undef] at h; done) | (rename_i h _ _ _; simp [undef] at h; done) | (rename_i h _ _ _ _; simp [undef] at h; done) | (rename_i h _ _; simp [undef] at h; done))
    gi_meet
    case rel => exact ⟨by rw [<- HK9.out]; rfl, HBX.out⟩
  case rest =>
  obtain ⟨rfl, hb⟩ := hcut
  obtain ⟨Wm, rfl⟩ : ∃ W, W = wc := ⟨_, rfl⟩
  replace HOB := Lib.hid (HOB.out.below hb)
  replace HBB := Lib.hid (below5 HBB.out hb)
  clear hb y0 y1 s0 s1 s3
  obtain ⟨y0, y1, s0, s1, s3⟩ := HCS.out Wm HBB.out
  cases k9 with
  | true =>
   have HAD := Lib.hid (add_out HOB.out (HWW.out _ HBB.out) (by omega) 9 t po no' qo own HE3.out NBW.out)
   gi_wp2_with fail
   refine (callsIn_wide.2 HAD.out).mono ?_
   rintro e9 Wz ⟨v', rfl, hO, b3⟩
   have HOX : Hid (CkOut (w := w) (R0 ++ (Ck.addK (Ck.addK (Ck.addK (Ck.addK (Ck.addK (Ck.addK ([] : List Int) 4 k4) 5 k5) 6 k6) 7 k7) 8 k8) 9 true).map fun k => ⟨k, own, t⟩) (3 + 6 * i + 6) v' Wz) := Lib.hid (by have h := hO; rw [List.append_assoc] at h; simpa [Ck.addK] using h)
   have HBX := Lib.hid b3
   clear hO b3
   gi_wp2_with fail
   go_roundw
   case rel =>
    refine ⟨i + 1, _, rfl, by go_num, hlt, ?_, ?_⟩
    ·show CkOut (w := w) _ _ _ _
     rw [HDR.out, List.flatMap_append, <- List.append_assoc, HR0.out]
     have h := HOX.out
     rw [<- HKI.out, <- HOG.out] at h
     simpa using h.more (by omega)
    ·exact below5 HBI.out (below5 HBAO.out (below5 HBB.out HBX.out))
   case measure => simp [intOf]; omega
  | false =>
   have HOX : Hid (CkOut (w := w) (R0 ++ (Ck.addK (Ck.addK (Ck.addK (Ck.addK (Ck.addK (Ck.addK ([] : List Int) 4 k4) 5 k5) 6 k6) 7 k7) 8 k8) 9 false).map fun k => ⟨k, own, t⟩) (3 + 6 * i + 5) _ _) := HOB
   gi_wp2_with fail
   go_roundw
   case rel =>
    refine ⟨i + 1, _, rfl, by go_num, hlt, ?_, ?_⟩
    ·show CkOut (w := w) _ _ _ _
     rw [HDR.out, List.flatMap_append, <- List.append_assoc, HR0.out]
     have h := HOX.out
     rw [<- HKI.out, <- HOG.out] at h
     simpa using h.more (by omega)
    ·exact below5 HBI.out (below5 HBAO.out HBB.out)
   case measure => simp [intOf]; omega
end
end Go.Proofs.YtneghhbclefmoaaGreat
end
section
namespace Go.Proofs.YtneghhbclefmoaaGreat
open Go.RowKit Go.Shelf Go.Sort
set_option maxRecDepth 100000
set_option maxHeartbeats 2000000 in
theorem ckSame_any {w1 w2 w0 : World} (va vb : Value) (a : List (ElF w1)) (b : List (ElF w2)) (ha : GRd 3 va (a.map encF) w0) (hb : GRd 3 vb (b.map encF) w0) (h1 : Below w1.heap.size w1 w0) (h2 : Below w2.heap.size w2 w0) (hal : Ck.alike (plF a) (plF b) = true) (na : a.length <= 1000) :
  Calls Tryz.prog 40 #[va, vb] w0 (Gives (.bool true) w0) := by
 obtain ⟨hle, hat⟩ := Ck.alike_at hal
 have hlab : b.length = a.length := by unfold plF at hle; rw [List.length_map, List.length_map] at hle; exact hle.symm
 obtain ⟨oa, ca, rfl, ha1, ha2⟩ := ha.form
 obtain ⟨ob, cb, rfl, hb1, hb2⟩ := hb.form
 rw [List.length_map] at ha ha1
 rw [List.length_map, hlab] at hb hb1
 simp only [List.length_map]
 rw [hlab]
 have HA := Lib.hid ha
 have HB := Lib.hid hb
 have HAT : Hid (∀ i (h : i < a.length) (h' : i < b.length), Ck.cmp a[i].1.2 b[i].1.2 = 0) := fun i hi hi' => by
  have h := hat i (by unfold plF; simpa using hi) (by unfold plF; simpa using hi')
  unfold plF at h
  simpa using h
 have HLB := Lib.hid hlab
 obtain ⟨n, hn⟩ : ∃ n, a.length = n := ⟨_, rfl⟩
 have HN := Lib.hid hn
 rw [hn] at HA HB ha1 hb1 na ⊢
 have nz : (n : Int) <= 1000 := by omega
 clear ha hb hal hle hat hlab hn
 refine (callsIn_wide (n := 0)).1 ?_
 refine callsIn_of_wp Tryz.func40 rfl trivial ?_ rfl
 simp only [Tryz.ntmps40, List.size_toArray, List.length_cons, List.length_nil, Nat.reduceAdd, Nat.reduceSub, Array.replicate_succ, Array.replicate_zero, List.push_toArray, List.append_toArray, List.nil_append, List.cons_append]
 gi_wp2_with fail
 gi_loopw [5] (fun vi W => ∃ k : Nat, k <= n /\ vi = .int .i64 k /\ Below w0.heap.size w0 W) (fun vi _ => n - (intOf vi).toNat)
 case atStart => exact ⟨0, Nat.zero_le _, rfl, Below.refl _ _⟩
 case round =>
  obtain ⟨k, hk, rfl, hbw⟩ := hrel
  by_cases hlt : k < n
  case neg =>
   have hlz : ¬ ((k : Int) < (n : Int)) := by omega
   gi_wp2_with fail
   go_ret
   exact ⟨rfl, hbw⟩
  case pos =>
  have hlz : (k : Int) < (n : Int) := by omega
  have hka : k < a.length := by rw [HN.out]; exact hlt
  have hkb : k < b.length := by rw [HLB.out, HN.out]; exact hlt
  obtain ⟨x, hx⟩ : ∃ x, a[k] = x := ⟨_, rfl⟩
  obtain ⟨y, hy⟩ : ∃ y, b[k] = y := ⟨_, rfl⟩
  obtain ⟨p0, n0, q0, ex, hxo⟩ := x.cells
  obtain ⟨p1, n1, q1, ey, hyo⟩ := y.cells
  have hxy := HAT.out k hka hkb
  rw [hx, hy] at hxy
  obtain ⟨e1, e2, e3⟩ := Ck.same_of hxy
  obtain ⟨ga, rfl, _⟩ := HA.out.elF _ (Below.refl _ _) k hka _ _ _ (by rw [hx]; exact ex)
  obtain ⟨gb, rfl, _⟩ := HB.out.elF _ (Below.refl _ _) k hkb _ _ _ (by rw [hy]; exact ey)
  obtain ⟨ea, hea⟩ : ∃ e, ga.add (k * 3) = e := ⟨_, rfl⟩
  obtain ⟨eb, heb⟩ : ∃ e, gb.add (k * 3) = e := ⟨_, rfl⟩
  rw [<- e1, <- e3] at ey
  obtain ⟨kk, hkk⟩ : ∃ z, x.1.2.kind = z := ⟨_, rfl⟩
  obtain ⟨kt, hkt⟩ : ∃ z, x.1.2.type = z := ⟨_, rfl⟩
  rw [hkk, hkt] at ex ey
  have HCS : Hid (∀ W', Below w0.heap.size w0 W' -> Cs [(ea, Value.int .i64 kk), (⟨ea.block, ea.off + 1, none⟩, .slice p0 n0 q0), (⟨ea.block, ea.off + 2, none⟩, .int .i64 kt), (eb, .int .i64 kk), (⟨eb.block, eb.off + 1, none⟩, .slice p1 n1 q1), (⟨eb.block, eb.off + 2, none⟩, .int .i64 kt)] W') := fun W' hW => by
   obtain ⟨a', ha', c0, c1, c2⟩ := HA.out.elF _ hW k hka _ _ _ (by rw [hx]; exact ex)
   obtain ⟨b', hb', d0, d1, d2⟩ := HB.out.elF _ hW k hkb _ _ _ (by rw [hy]; exact ey)
   cases ha'
   cases hb'
   rw [hea] at c0 c1 c2
   rw [heb] at d0 d1 d2
   exact ⟨c0, c1, c2, d0, d1, d2, trivial⟩
  have HSM : Hid (∀ W', Below w0.heap.size w0 W' -> Calls Tryz.prog 63 #[.slice p0 n0 q0, .slice p1 n1 q1] W' (Gives (.bool true) W')) := fun W' hW => by
   have h := refSame_any _ _ x.1.2.owner y.1.2.owner W' (hxo.below (below5 h1 hW)) (hyo.below (below5 h2 hW)) x.2.2 y.2.2
   rw [e2] at h; exact h
  have HBW := Lib.hid hbw
  clear hx hy ex ey hxo hyo hxy e1 e2 e3 hkk hkt hbw
  gi_wp2_with fail
  refine drawnH (List.range 38) (Cs [(ea, Value.int .i64 kk), (⟨ea.block, ea.off + 1, none⟩, .slice p0 n0 q0), (⟨ea.block, ea.off + 2, none⟩, .int .i64 kt), (eb, .int .i64 kk), (⟨eb.block, eb.off + 1, none⟩, .slice p1 n1 q1), (⟨eb.block, eb.off + 2, none⟩, .int .i64 kt)]) 38 rfl (by kernel_rfl) ?_
  intro wa hwa
  have HBA : Hid (Below w0.heap.size w0 wa) := by subst hwa; exact HBW.out.drew
  have hS := HCS.out wa HBA.out
  clear hwa
  refine tH 0 ?qav0 hS (fun w1 ⟨x0, x1, x2, y0, y1, y2, _⟩ => ?qay0) ?_
  case qay0 => go_simp; try rfl
  refine tH 1 ?qav1 hS (fun w1 ⟨x0, x1, x2, y0, y1, y2, _⟩ => ?qay1) ?_
  case qay1 => go_simp; try rfl
  refine tH 2 ?qav2 hS (fun w1 ⟨x0, x1, x2, y0, y1, y2, _⟩ => ?qay2) ?_
  case qay2 => go_simp; try rfl
  refine tH 3 ?qav3 hS (fun w1 ⟨x0, x1, x2, y0, y1, y2, _⟩ => ?qay3) ?_
  case qay3 => go_simp; try rfl
  refine tH 4 ?qav4 hS (fun w1 ⟨x0, x1, x2, y0, y1, y2, _⟩ => ?qay4) ?_
  case qay4 => go_simp; try rfl
  refine tH 5 ?qav5 hS (fun w1 ⟨x0, x1, x2, y0, y1, y2, _⟩ => ?qay5) ?_
  case qay5 => go_simp; try rfl
  refine tH 6 ?qav6 hS (fun w1 ⟨x0, x1, x2, y0, y1, y2, _⟩ => ?qay6) ?_
  case qay6 => go_simp; try rfl
  refine tH 7 ?qav7 hS (fun w1 ⟨x0, x1, x2, y0, y1, y2, _⟩ => ?qay7) ?_
  case qay7 => go_simp; try rfl
  refine tH 8 ?qav8 hS (fun w1 ⟨x0, x1, x2, y0, y1, y2, _⟩ => ?qay8) ?_
  case qay8 => go_simp; try rfl
  refine tH 9 ?qav9 hS (fun w1 ⟨x0, x1, x2, y0, y1, y2, _⟩ => ?qay9) ?_
  case qay9 => go_simp; try rfl
  refine tH 10 ?qav10 hS (fun w1 ⟨x0, x1, x2, y0, y1, y2, _⟩ => ?qay10) ?_
  case qay10 => go_simp; try rfl
  refine tH 11 ?qav11 hS (fun w1 ⟨x0, x1, x2, y0, y1, y2, _⟩ => ?qay11) ?_
  case qay11 => go_simp; try rfl
  simp only [Act.put, List.setIfInBounds_toArray, List.set_cons_succ, List.set_cons_zero]
  refine tH 12 ?qbv12 hS (fun w1 ⟨x0, x1, x2, y0, y1, y2, _⟩ => ?qby12) ?_
  case qby12 => go_simp; try rfl
  refine tH 13 ?qbv13 hS (fun w1 ⟨x0, x1, x2, y0, y1, y2, _⟩ => ?qby13) ?_
  case qby13 => go_simp; try rfl
  refine tH 14 ?qbv14 hS (fun w1 ⟨x0, x1, x2, y0, y1, y2, _⟩ => ?qby14) ?_
  case qby14 => go_simp; try rfl
  refine tH 15 ?qbv15 hS (fun w1 ⟨x0, x1, x2, y0, y1, y2, _⟩ => ?qby15) ?_
  case qby15 => go_simp; try rfl
  refine tH 16 ?qbv16 hS (fun w1 ⟨x0, x1, x2, y0, y1, y2, _⟩ => ?qby16) ?_
  case qby16 => go_simp; try rfl
  refine tH 17 ?qbv17 hS (fun w1 ⟨x0, x1, x2, y0, y1, y2, _⟩ => ?qby17) ?_
  case qby17 => go_simp; try rfl
  refine tH 18 ?qbv18 hS (fun w1 ⟨x0, x1, x2, y0, y1, y2, _⟩ => ?qby18) ?_
  case qby18 => go_simp; try rfl
  refine tH 19 ?qbv19 hS (fun w1 ⟨x0, x1, x2, y0, y1, y2, _⟩ => ?qby19) ?_
  case qby19 => go_simp; try rfl
  refine tH 20 ?qbv20 hS (fun w1 ⟨x0, x1, x2, y0, y1, y2, _⟩ => ?qby20) ?_
  case qby20 => go_simp; try rfl
  refine tH 21 ?qbv21 hS (fun w1 ⟨x0, x1, x2, y0, y1, y2, _⟩ => ?qby21) ?_
  case qby21 => go_simp; try rfl
  simp only [Act.put, List.setIfInBounds_toArray, List.set_cons_succ, List.set_cons_zero]
  refine oneH 22 (by rfl) (by kernel_rfl) (fun K hK => ?_)
  gi_wp2_with (gi_at_call 63; refine (callsIn_wide.2 (HSM.out wa HBA.out)).mono ?_; rintro e9 wb ⟨rfl, b9⟩)
  have HBB := Lib.hid (below5 HBA.out b9)
  replace hS := HCS.out wb HBB.out
  refine hK _ _ (fun _ => hS) ?_
  clear hK K b9
  refine tH 23 ?qcv23 hS (fun w1 ⟨x0, x1, x2, y0, y1, y2, _⟩ => ?qcy23) ?_
  case qcy23 => go_simp; try rfl
  refine tH 24 ?qcv24 hS (fun w1 ⟨x0, x1, x2, y0, y1, y2, _⟩ => ?qcy24) ?_
  case qcy24 => go_simp; try rfl
  refine tH 25 ?qcv25 hS (fun w1 ⟨x0, x1, x2, y0, y1, y2, _⟩ => ?qcy25) ?_
  case qcy25 => go_simp; try rfl
  refine tH 26 ?qcv26 hS (fun w1 ⟨x0, x1, x2, y0, y1, y2, _⟩ => ?qcy26) ?_
  case qcy26 => go_simp; try rfl
  refine tH 27 ?qcv27 hS (fun w1 ⟨x0, x1, x2, y0, y1, y2, _⟩ => ?qcy27) ?_
  case qcy27 => go_simp; try rfl
  refine tH 28 ?qcv28 hS (fun w1 ⟨x0, x1, x2, y0, y1, y2, _⟩ => ?qcy28) ?_
  case qcy28 => go_simp; try rfl
  refine tH 29 ?qcv29 hS (fun w1 ⟨x0, x1, x2, y0, y1, y2, _⟩ => ?qcy29) ?_
  case qcy29 => go_simp; try rfl
  refine tH 30 ?qcv30 hS (fun w1 ⟨x0, x1, x2, y0, y1, y2, _⟩ => ?qcy30) ?_
  case qcy30 => go_simp; try rfl
  refine tH 31 ?qcv31 hS (fun w1 ⟨x0, x1, x2, y0, y1, y2, _⟩ => ?qcy31) ?_
  case qcy31 => go_simp; try rfl
  refine tH 32 ?qcv32 hS (fun w1 ⟨x0, x1, x2, y0, y1, y2, _⟩ => ?qcy32) ?_
  case qcy32 => go_simp; try rfl
  refine tH 33 ?qcv33 hS (fun w1 ⟨x0, x1, x2, y0, y1, y2, _⟩ => ?qcy33) ?_
  case qcy33 => go_simp; try rfl
  refine tH 34 ?qcv34 hS (fun w1 ⟨x0, x1, x2, y0, y1, y2, _⟩ => ?qcy34) ?_
  case qcy34 => go_simp; try rfl
  refine tH 35 ?qcv35 hS (fun w1 ⟨x0, x1, x2, y0, y1, y2, _⟩ => ?qcy35) ?_
  case qcy35 => go_simp; try rfl
  simp only [Act.put, List.setIfInBounds_toArray, List.set_cons_succ, List.set_cons_zero]
  refine tH 36 ?qdv36 hS (fun w1 ⟨x0, x1, x2, y0, y1, y2, _⟩ => ?qdy36) ?_
  case qdy36 => go_simp; try rfl
  refine tH 37 ?qdv37 hS (fun w1 ⟨x0, x1, x2, y0, y1, y2, _⟩ => ?qdy37) ?_
  case qdy37 => go_simp; try rfl
  simp only [Act.put, List.setIfInBounds_toArray, List.set_cons_succ, List.set_cons_zero]
  refine doneH (by kernel_rfl) ?_
  clear hS
  gi_wp2_with fail
  exact ⟨⟨k + 1, hlt, by go_num, HBB.out⟩, by simp [intOf]; omega⟩
end Go.Proofs.YtneghhbclefmoaaGreat
end
