/- The walk of TypeCase. -/
import Derived.Test.YtbgbahllhjelgaaDoorKTyD
namespace Go.Proofs.YtbgbahllhjelgaaDoor
open Go.RowKit Go.Shelf
set_option maxRecDepth 100000
def TrE (w : World) (e : Ending) (w' : World) : Prop := e = .returned (.bool true) /\ Below w.heap.size w w'
theorem Ty.text_len (t : Nat) (h : t < 65536) : (Ty.text t).length <= 1000 := by
 have h1 : ∀ p ∈ Ty.names, p.2.length <= 1000 := by decide
 unfold Ty.text
 rcases hn : Ty.nameOf t with _ | s
 ·have := dec_len t (by omega)
  simp; omega
 ·exact h1 _ (Ty.nameOf_mem hn)
theorem low_low (c : UInt8) : Lb.low (Lb.low c) = Lb.low c := by
 have h : ∀ n : Fin 256, Lb.low (Lb.low (UInt8.ofNat n.1)) = Lb.low (UInt8.ofNat n.1) := by decide +kernel
 have := h ⟨c.toNat, c.toNat_lt⟩
 simpa using this
theorem fold_set {m : List UInt8} {k : Nat} (h : k < m.length) : Lb.fold (m.set k (Lb.low m[k])) = Lb.fold m := by
 unfold Lb.fold
 rw [List.map_set, low_low]
 refine List.ext_getElem (by simp) fun i h1 h2 => ?_
 rw [List.getElem_set]
 split
 ·rename_i e; subst e; simp
 ·rfl
theorem wf_u16b {n : Int} (h : (Lit.int .u16 n).wf = true) : 0 <= n /\ n <= 65535 := by
 simp only [Lit.wf, Bool.and_eq_true, decide_eq_true_eq] at h
 have h1 : IntKind.u16.min = 0 := by decide
 have h2 : IntKind.u16.max = 65536 - 1 := by decide
 omega
set_option maxHeartbeats 8000000 in
theorem walkTypeCase (a b c : Int) (w : World) (ha : (Lit.int .u16 a).wf = true) (hb : (Lit.int .u16 b).wf = true) (hc : (Lit.int .u16 c).wf = true) (ht : Tab w) (he : EV w) :
  Calls Tryd.prog 6 #[.int .u16 a, .int .u16 b, .int .u16 c] w (TrE w) := by
 have HT := Lib.hid ht
 have HE := Lib.hid he
 clear ht he
 replace ha := wf_u16b ha
 replace hb := wf_u16b hb
 replace hc := wf_u16b hc
 by_cases ha0 : a = 0
 ·subst ha0
  refine (callsIn_wide (n := 0)).1 ?_
  refine callsIn_of_wp Tryd.func6 rfl trivial ?_ rfl
  simp only [Tryd.ntmps6, List.size_toArray, List.length_cons, List.length_nil, Nat.reduceAdd, Nat.reduceSub, Array.replicate_succ, Array.replicate_zero, List.push_toArray, List.append_toArray, List.nil_append, List.cons_append]
  gi_wp2_with fail
  refine (callsIn_wide.2 (tknown_any w HT.out HE.out)).mono ?_
  rintro e w1 ⟨rfl, b1⟩
  gi_wp2_with fail
  go_ret
  exact ⟨rfl, b1⟩
 by_cases hb0 : b = 0
 ·subst hb0
  refine (callsIn_wide (n := 0)).1 ?_
  refine callsIn_of_wp Tryd.func6 rfl trivial ?_ rfl
  simp only [Tryd.ntmps6, List.size_toArray, List.length_cons, List.length_nil, Nat.reduceAdd, Nat.reduceSub, Array.replicate_succ, Array.replicate_zero, List.push_toArray, List.append_toArray, List.nil_append, List.cons_append]
  gi_wp2_with fail
  refine (callsIn_wide.2 (tknown_any w HT.out HE.out)).mono ?_
  rintro e w1 ⟨rfl, b1⟩
  gi_wp2_with fail
  go_ret
  exact ⟨rfl, b1⟩
 obtain ⟨t, rfl⟩ : ∃ t : Nat, a = t := ⟨a.toNat, by omega⟩
 obtain ⟨u, rfl⟩ : ∃ u : Nat, b = u := ⟨b.toNat, by omega⟩
 have t1 : 1 <= t := by omega
 have u1 : 1 <= u := by omega
 have t2 : t <= 65535 := by omega
 have u2 : u <= 65535 := by omega
 have tz : (t : Int) <= 65535 := by omega
 have uz : (u : Int) <= 65535 := by omega
 have tw : IntKind.i64.wrap (t : Int) = (t : Int) := IntWalk.i64_in _ (by omega)
 have uw : IntKind.i64.wrap (u : Int) = (u : Int) := IntWalk.i64_in _ (by omega)
 have ta : ¬ ((t : Int) = 0) := by omega
 have ua : ¬ ((u : Int) = 0) := by omega
 have tn : ((t : Int) == 0) = false := by simpa using ta
 have un : ((u : Int) == 0) = false := by simpa using ua
 obtain ⟨l, hl⟩ : ∃ l, Ty.text t = l := ⟨_, rfl⟩
 have hln : l.length <= 1000 := by rw [<- hl]; exact Ty.text_len t (by omega)
 have lz : (l.length : Int) <= 1000 := by omega
 have HL := Lib.hid hl
 clear hl ha0 hb0
 refine (callsIn_wide (n := 0)).1 ?_
 refine callsIn_of_wp Tryd.func6 rfl trivial ?_ rfl
 simp only [Tryd.ntmps6, List.size_toArray, List.length_cons, List.length_nil, Nat.reduceAdd, Nat.reduceSub, Array.replicate_succ, Array.replicate_zero, List.push_toArray, List.append_toArray, List.nil_append, List.cons_append]
 gi_wp2_with fail
 refine (callsIn_wide.2 (tknown_any w HT.out HE.out)).mono ?_
 rintro e w1 ⟨rfl, b1⟩
 have HB1 := Lib.hid b1
 clear b1
 gi_wp2_with fail
 refine (callsIn_wide.2 (text_at (t := t) HL.out (by omega) w1 (HT.out.below HB1.out))).mono ?_
 rintro e w2 ⟨rfl, b2⟩
 have HB2 := Lib.hid (below5 HB1.out b2)
 clear b2
 obtain ⟨cap, W1, hrun, hrow, hb1, hs1⟩ := bytes_of l w2
 gi_wp2_with fail
 clear hrun
 gi_loopw [8] (fun i wr => ∃ (k : Nat) (m : List UInt8), k <= l.length /\ i = .int .i64 k /\ Hid (m.length = l.length /\ Lb.fold m = Lb.fold l) /\ ByteRow w2.heap.size m wr /\ Below w2.heap.size w2 wr) (fun i _ => l.length - (intOf i).toNat)
 case atStart => exact ⟨0, l, by omega, rfl, ⟨rfl, rfl⟩, hrow, hb1⟩
 case round =>
  obtain ⟨k, m, hk, rfl, hm, hr, hb⟩ := hrel
  by_cases hlt : k < l.length
  ·have hkm : k < m.length := by rw [hm.out.1]; exact hlt
   have hlz : (k : Int) < (l.length : Int) := by omega
   have hc := hr.cell k hkm
   have hf := hr.frozen k hkm
   by_cases h1 : 65 <= m[k].toNat /\ m[k].toNat <= 90
   ·have HN := Lib.hid (Lb.low_nat m[k] h1)
    have HS := Lib.hid (fold_set hkm)
    obtain ⟨h11, h12⟩ : 65 <= (m[k].toNat : Int) /\ (m[k].toNat : Int) <= 90 := by omega
    clear h1
    gi_wp2_with fail
    all_goals first
     | exact ⟨⟨k + 1, m, by omega, by go_num, hm, hr, hb⟩, by simp [intOf]; omega⟩
     | (have hs := hr.set k (Lb.low m[k])
        rw [HN.out] at hs
        exact ⟨⟨k + 1, m.set k (Lb.low m[k]), by omega, by go_num, ⟨by rw [List.length_set]; exact hm.out.1, by rw [HS.out]; exact hm.out.2⟩, hs, hb.setCell (p := ⟨w2.heap.size, k, none⟩) (Nat.le_refl _) _⟩, by simp [intOf]; omega⟩)
   ·have hH := Lib.hid h1
    clear h1
    gi_wp2_with fail
    all_goals first
     | (exfalso; have h2 : 65 <= (m[k].toNat : Int) := by assumption
        have h3 : (m[k].toNat : Int) <= 90 := by assumption
        exact hH.out ⟨by omega, by omega⟩)
     | exact ⟨⟨k + 1, m, by omega, by go_num, hm, hr, hb⟩, by simp [intOf]; omega⟩
  ·obtain rfl : k = l.length := by omega
   have hlz : ¬ ((l.length : Int) < (l.length : Int)) := by omega
   have hcv := conv_row _ _ cap _ hr
   rw [hm.out.1] at hcv
   have hml : m.length <= 100000 := by rw [hm.out.1]; omega
   have HPA : Hid (Ty.parse m = ((t : Int), 0)) := by
    show _ = _
    rw [Ty.parse_fold hm.out.2, <- HL.out]; exact Ty.parse_text t t1 t2
   have HB3 := Lib.hid (below5 HB2.out hb)
   clear hr hb hm
   gi_wp2_with fail
   refine (callsIn_wide.2 (tparse_at HPA.out hml wr (HE.out.below HB3.out))).mono ?_
   rintro e w4 ⟨rfl, b4⟩
   have HB4 := Lib.hid (below5 HB3.out b4)
   clear b4 hcv
   gi_wp2_with fail
   refine (callsIn_wide.2 (text_at (t := t) HL.out (by omega) w4 (HT.out.below HB4.out))).mono ?_
   rintro e w5 ⟨rfl, b5⟩
   have HB5 := Lib.hid (below5 HB4.out b5)
   clear b5
   gi_wp2_with fail
   obtain ⟨r, hr⟩ : ∃ r, Ty.text u = r := ⟨_, rfl⟩
   refine (callsIn_wide.2 (text_at (t := u) hr (by omega) w5 (HT.out.below HB5.out))).mono ?_
   rintro e w6 ⟨rfl, b6⟩
   have HB6 := Lib.hid (below5 HB5.out b6)
   clear b6
   have hinj := Ty.text_inj t1 t2 u1 u2
   rw [HL.out, hr] at hinj
   by_cases htu : t = u
   ·have hlr : l = r := hinj.2 htu
    subst htu
    subst hlr
    gi_wp2_with fail
    go_ret
    exact ⟨rfl, HB6.out⟩
   ·have hlr : ¬ l = r := fun h => htu (hinj.1 h)
    have hlb : (l == r) = false := by simpa using hlr
    have hla : ¬ ((⟨l.toArray⟩ : ByteArray) = ⟨r.toArray⟩) := by intro h; apply hlr; simpa using h
    have htz : ((t : Int) == (u : Int)) = false := by simp; omega
    gi_wp2_with fail
    go_ret
    exact ⟨rfl, HB6.out⟩
end Go.Proofs.YtbgbahllhjelgaaDoor
