/- The walk of RecStands. -/
import Derived.Test.YtbgbahllhjelgaaGreatDoorKReD
import Derived.Test.YtbgbahllhjelgaaGreatDoorKReg
namespace Go.Proofs.YtbgbahllhjelgaaGreatDoor
open Go.RowKit Go.Shelf Go.Sort
set_option maxRecDepth 100000
set_option maxHeartbeats 1000000 in
theorem rd7 {w w0 : World} {o : Option Addr} {n cap : Nat} {l : List (El w)} (h : RecsRd (.slice o n cap) (l.map (·.1)) w0) (i : Nat) (hi : i < l.length) :
  ∃ (ga : Addr) (p0 : Option Addr) (n0 q0 : Nat) (p1 : Option Addr) (n1 q1 : Nat) (p2 : Option Addr) (n2 q2 : Nat) (p3 : Option Addr) (n3 q3 : Nat) (p4 : Option Addr) (n4 q4 : Nat), o = some ga /\ RecRd [.slice p0 n0 q0, .int .u32 (l[i].1.2.ttl : Int), .int .i64 l[i].1.2.type, .slice p1 n1 q1, .slice p2 n2 q2, .slice p3 n3 q3, .slice p4 n4 q4] l[i].1.2 w /\ ∀ W', Below w0.heap.size w0 W' -> Cs [(ga.add (i * 7), .slice p0 n0 q0), (⟨(ga.add (i * 7)).block, (ga.add (i * 7)).off + 1, none⟩, .int .u32 (l[i].1.2.ttl : Int)), (⟨(ga.add (i * 7)).block, (ga.add (i * 7)).off + 2, none⟩, .int .i64 l[i].1.2.type), (⟨(ga.add (i * 7)).block, (ga.add (i * 7)).off + 3, none⟩, .slice p1 n1 q1), (⟨(ga.add (i * 7)).block, (ga.add (i * 7)).off + 4, none⟩, .slice p2 n2 q2), (⟨(ga.add (i * 7)).block, (ga.add (i * 7)).off + 5, none⟩, .slice p3 n3 q3), (⟨(ga.add (i * 7)).block, (ga.add (i * 7)).off + 6, none⟩, .slice p4 n4 q4)] W' := by
 obtain ⟨p0, n0, q0, p1, n1, q1, p2, n2, q2, p3, n3, q3, p4, n4, q4, ex⟩ := l[i].cells
 have hxr : RecRd [.slice p0 n0 q0, .int .u32 (l[i].1.2.ttl : Int), .int .i64 l[i].1.2.type, .slice p1 n1 q1, .slice p2 n2 q2, .slice p3 n3 q3, .slice p4 n4 q4] l[i].1.2 w := by have h := l[i].2.1; rw [show l[i].1.1 = _ from ex] at h; exact h
 obtain ⟨ga, rfl, _⟩ := h.el _ (Below.refl _ _) i hi _ _ _ _ _ _ _ ex
 refine ⟨ga, p0, n0, q0, p1, n1, q1, p2, n2, q2, p3, n3, q3, p4, n4, q4, rfl, hxr, fun W' hb => ?_⟩
 obtain ⟨ga', hg, e0, e1, e2, e3, e4, e5, e6⟩ := h.el _ hb i hi _ _ _ _ _ _ _ ex
 cases hg
 exact ⟨e0, e1, e2, e3, e4, e5, e6, trivial⟩
set_option maxHeartbeats 16000000 in
theorem walkRecStands (v0 : Value) (l0 : List RP) (w : World) (h0 : RecsRd v0 l0 w /\ ∀ x ∈ l0, RN x.2) (ht : Tab w) :
  Calls Tryz.prog 7 #[v0] w (TrE w) := by
 obtain ⟨h0, hrn⟩ := h0
 obtain ⟨o1, c1, rfl, rb1, rb2⟩ := h0.shape
 have HV := Lib.hid h0
 have HRN := Lib.hid hrn
 have HT := Lib.hid ht
 clear h0 hrn ht
 refine (callsIn_wide (n := 0)).1 ?_
 refine callsIn_of_wp Tryz.func7 rfl trivial ?_ rfl
 simp only [Tryz.ntmps7, List.size_toArray, List.length_cons, List.length_nil, Nat.reduceAdd, Nat.reduceSub, Array.replicate_succ, Array.replicate_zero, List.push_toArray, List.append_toArray, List.nil_append, List.cons_append]
 gi_wp2_with fail
 refine (callsIn_wide.2 (known5_any _ HT.out)).mono ?_
 rintro e w1 ⟨rfl, b1⟩
 have HF := Lib.hid (few5_any _ l0 w1 (HV.out.kept b1))
 have HB1 := Lib.hid b1
 clear b1
 gi_wp2_with fail
 refine (callsIn_wide.2 HF.out).mono ?_
 rintro e w3 ⟨b, rfl, hq, b2⟩
 have HB3 := Lib.hid (below5 HB1.out b2)
 have HQ := Lib.hid hq
 clear HF b2 hq
 cases b with
 | false =>
  gi_wp2_with fail
  go_ret
  exact ⟨rfl, HB3.out⟩
 | true =>
 obtain ⟨L, hL, hL60, hLl⟩ := els_of (HV.out.kept HB3.out) (by first | exact HQ.out rfl | exact HQ.out trivial) HRN.out
 have VL : Hid (RecsRd (.slice o1 l0.length c1) (L.map (·.1)) w3) := by show RecsRd _ _ _; rw [hL]; exact HV.out.kept HB3.out
 obtain ⟨m, hm⟩ : ∃ m, l0.length = m := ⟨_, rfl⟩
 rw [hm] at VL rb1 hLl ⊢
 obtain ⟨PL, hPL⟩ : ∃ p, plE L = p := ⟨_, rfl⟩
 have EL := Lib.hid hPL
 have HLM := Lib.hid hLl
 have hPm : PL.length = m := by rw [<- hPL, plE_len]; exact hLl
 have m60 : m <= 60 := by rw [<- hLl]; exact hL60
 have mz : (m : Int) <= 60 := by omega
 have HPM := Lib.hid hPm
 clear hL HQ HB1 hLl hPL hPm hm HV HRN hL60
 gi_wp2_with fail
 refine (callsIn_wide.2 (canon3_any (Below.refl w3.heap.size w3) (.slice o1 m c1) L VL.out (by rw [HLM.out]; omega))).mono ?_
 rintro e w4 ⟨oc, cc, lc, rfl, hv, hp, hn, b4⟩
 rw [EL.out] at hp hn
 rw [HPM.out] at hn
 obtain ⟨n, hln⟩ : ∃ n, lc.length = n := ⟨_, rfl⟩
 have HLN := Lib.hid hln
 rw [hln] at hv hn ⊢
 have nz : (n : Int) <= 60 := by omega
 have VC := Lib.hid hv
 have EC := Lib.hid hp
 have HB4 := Lib.hid b4
 have VL4 := Lib.hid (VL.out.kept b4)
 clear hv hp hln b4
 gi_wp2_with fail
 gi_loopw [4] (fun v4 W => ∃ i : Nat, i <= n /\ v4 = .int .i64 i /\ Below w4.heap.size w4 W) (fun v4 _ => n - (intOf v4).toNat)
 case atStart => exact ⟨0, Nat.zero_le _, rfl, Below.refl _ _⟩
 case round =>
 obtain ⟨i, hi, rfl, hbw⟩ := hrel
 have HBW := Lib.hid hbw
 clear hbw
 by_cases hlt : i < n
 case neg =>
  have hlz : ¬ ((i : Int) < (n : Int)) := by omega
  gi_wp2_with fail
  refine (callsIn_wide.2 (ofAll_any (.slice o1 m c1) L (below5 HB4.out HBW.out) (VL4.out.kept HBW.out) (by rw [HLM.out]; omega))).mono ?_
  rintro e w5 ⟨v, lk, rfl, hv, hp, b5⟩
  obtain ⟨ok, ck, rfl⟩ : ∃ o cap, v = .slice o lk.length cap := by obtain ⟨_, o, cap, h, _⟩ := hv; exact ⟨o, cap, by rw [h, List.length_map]⟩
  rw [EL.out] at hp
  have nk : lk.length <= 60 := by have := plE_len lk; rw [hp, HPM.out] at this; omega
  have VK := Lib.hid hv
  have EK := Lib.hid hp
  have HB5 := Lib.hid (below5 (below5 HB4.out HBW.out) b5)
  clear hv hp b5
  gi_wp2_with fail
  refine (callsIn_wide.2 (refCanon_any (.slice ok lk.length ck) lk (Below.refl w5.heap.size w5) VK.out (by omega))).mono ?_
  rintro e w6 ⟨lr, v, hp, _, rfl, hv, b6⟩
  obtain ⟨or, cr, rfl⟩ : ∃ o cap, v = .slice o lr.length cap := by obtain ⟨_, o, cap, h, _⟩ := hv; exact ⟨o, cap, by rw [h, List.length_map]⟩
  rw [EK.out] at hp
  have hlr : lr.length = n := by rw [<- HLN.out, <- plE_len lc, <- plE_len lr, hp, EC.out]
  rw [hlr]
  gi_wp2_with fail
  go_ret
  exact ⟨rfl, below5 HB3.out (below5 HB5.out b6)⟩
 case pos =>
 have hlz : (i : Int) < (n : Int) := by omega
 have hia : i < lc.length := by rw [HLN.out]; exact hlt
 obtain ⟨gx, xp0, xn0, xq0, xp1, xn1, xq1, xp2, xn2, xq2, xp3, xn3, xq3, xp4, xn4, xq4, hox, hrx, hcx⟩ := rd7 VC.out i hia
 obtain ⟨x, hxx⟩ : ∃ x, lc[i] = x := ⟨_, rfl⟩
 rw [hxx] at hrx hcx
 obtain ⟨tx, htx⟩ : ∃ t, x.1.2.ttl = t := ⟨_, rfl⟩
 obtain ⟨yx, hyx⟩ : ∃ t, x.1.2.type = t := ⟨_, rfl⟩
 rw [htx, hyx] at hrx hcx
 obtain ⟨ea, hea⟩ : ∃ q, gx.add (i * 7) = q := ⟨_, rfl⟩
 rw [hea] at hcx
 have HxC := Lib.hid hcx
 have HxR := Lib.hid hrx
 clear hcx hrx
 subst hox
 have HXM : Hid (x.1.2 ∈ Rc.canon PL) := by show _ ∈ _; rw [<- EC.out, <- hxx]; exact List.mem_map.2 ⟨_, List.getElem_mem hia, rfl⟩
 have HON : Hid (L.any (fun z : El w3 => (Rc.cmp z.1.2 x.1.2 == 0) && (z.1.2.ttl == x.1.2.ttl)) = true) := by
  obtain ⟨k, hk, e1, e2⟩ := Rc.canon_one HXM.out
  have hk2 : k < L.length := by rw [HLM.out, <- HPM.out]; exact hk
  have hel : PL[k] = L[k].1.2 := by simp only [<- EL.out, plE, List.getElem_map]
  rw [hel] at e1 e2
  exact List.any_eq_true.2 ⟨L[k], List.getElem_mem hk2, by simp [e1, e2]⟩
 have HLE : Hid (∀ z ∈ L, (Rc.cmp z.1.2 x.1.2 == 0) = true -> x.1.2.ttl <= z.1.2.ttl) := fun z hz h => Rc.canon_least HXM.out (by rw [<- EL.out]; exact List.mem_map.2 ⟨z, hz, rfl⟩) (by simpa using h)
 by_cases hi0 : 0 < i
 case pos =>
  have hi0z : (0 : Int) < (i : Int) := by omega
  obtain ⟨j, hj⟩ : ∃ j, i = j + 1 := ⟨i - 1, by omega⟩
  have hwj : IntKind.i64.wrap ((i : Int) - 1) = (j : Int) := by rw [show (i : Int) - 1 = (j : Int) by omega]; exact IntWalk.i64_in _ (by omega)
  have hwk : IntKind.i64.wrap (j : Int) = (j : Int) := IntWalk.i64_in _ (by omega)
  have hjz : (j : Int) < (n : Int) := by omega
  have hja : j < lc.length := by omega
  obtain ⟨gy, yp0, yn0, yq0, yp1, yn1, yq1, yp2, yn2, yq2, yp3, yn3, yq3, yp4, yn4, yq4, hoy, hry, hcy⟩ := rd7 VC.out j hja
  obtain ⟨y, hxy⟩ : ∃ x, lc[j] = x := ⟨_, rfl⟩
  rw [hxy] at hry hcy
  obtain ⟨ty, hty⟩ : ∃ t, y.1.2.ttl = t := ⟨_, rfl⟩
  obtain ⟨yy, hyy⟩ : ∃ t, y.1.2.type = t := ⟨_, rfl⟩
  rw [hty, hyy] at hry hcy
  obtain ⟨eb, heb⟩ : ∃ q, gy.add (j * 7) = q := ⟨_, rfl⟩
  rw [heb] at hcy
  have HyC := Lib.hid hcy
  have HyR := Lib.hid hry
  clear hcy hry
  cases hoy
  obtain ⟨z, hz⟩ : ∃ z, Rc.cmp y.1.2 x.1.2 = z := ⟨_, rfl⟩
  have hzl : z < 0 := by
   have h := Rc.canon_next PL j (by rw [<- EC.out, plE_len, <- hj]; exact hia)
   have e1 : (Rc.canon PL)[j]'(by rw [<- EC.out, plE_len]; exact hja) = y.1.2 := by simp only [<- EC.out, plE, List.getElem_map, hxy]
   have e2 : (Rc.canon PL)[j + 1]'(by rw [<- EC.out, plE_len, <- hj]; exact hia) = x.1.2 := by simp only [<- EC.out, plE, List.getElem_map, <- hj, hxx]
   rw [e1, e2, hz] at h; exact h
  have hzn : ¬ (0 <= z) := by omega
  have HCM : Hid (∀ W', Below w4.heap.size w4 W' -> Calls Tryz.prog 14 #[.agg #[.slice yp0 yn0 yq0, .int .u32 (ty : Int), .int .i64 yy, .slice yp1 yn1 yq1, .slice yp2 yn2 yq2, .slice yp3 yn3 yq3, .slice yp4 yn4 yq4], .agg #[.slice xp0 xn0 xq0, .int .u32 (tx : Int), .int .i64 yx, .slice xp1 xn1 xq1, .slice xp2 xn2 xq2, .slice xp3 xn3 xq3, .slice xp4 xn4 xq4]] W' (Gives (.int .i64 z) W')) := fun W' hW => by
   have h := recCompare_any [.slice yp0 yn0 yq0, .int .u32 (ty : Int), .int .i64 yy, .slice yp1 yn1 yq1, .slice yp2 yn2 yq2, .slice yp3 yn3 yq3, .slice yp4 yn4 yq4] [.slice xp0 xn0 xq0, .int .u32 (tx : Int), .int .i64 yx, .slice xp1 xn1 xq1, .slice xp2 xn2 xq2, .slice xp3 xn3 xq3, .slice xp4 xn4 xq4] y.1.2 x.1.2 W' (HyR.out.below (below5 HB4.out hW)) (HxR.out.below (below5 HB4.out hW)) y.2.2 x.2.2
   rw [hz] at h; exact h
  have HCY : Hid (∀ W', Below w4.heap.size w4 W' -> (Cs [(ea, .slice xp0 xn0 xq0), (⟨ea.block, ea.off + 1, none⟩, .int .u32 (tx : Int)), (⟨ea.block, ea.off + 2, none⟩, .int .i64 yx), (⟨ea.block, ea.off + 3, none⟩, .slice xp1 xn1 xq1), (⟨ea.block, ea.off + 4, none⟩, .slice xp2 xn2 xq2), (⟨ea.block, ea.off + 5, none⟩, .slice xp3 xn3 xq3), (⟨ea.block, ea.off + 6, none⟩, .slice xp4 xn4 xq4), (eb, .slice yp0 yn0 yq0), (⟨eb.block, eb.off + 1, none⟩, .int .u32 (ty : Int)), (⟨eb.block, eb.off + 2, none⟩, .int .i64 yy), (⟨eb.block, eb.off + 3, none⟩, .slice yp1 yn1 yq1), (⟨eb.block, eb.off + 4, none⟩, .slice yp2 yn2 yq2), (⟨eb.block, eb.off + 5, none⟩, .slice yp3 yn3 yq3), (⟨eb.block, eb.off + 6, none⟩, .slice yp4 yn4 yq4)]) W') := fun W' hW => by
   obtain ⟨c0, c1, c2, c3, c4, c5, c6, _⟩ := HxC.out W' hW
   obtain ⟨d0, d1, d2, d3, d4, d5, d6, _⟩ := HyC.out W' hW
   exact ⟨c0, c1, c2, c3, c4, c5, c6, d0, d1, d2, d3, d4, d5, d6, trivial⟩
  clear hz hxy hty hyy hj
  gi_wp2_with fail
  refine drawnH (List.range 15) (Cs [(ea, .slice xp0 xn0 xq0), (⟨ea.block, ea.off + 1, none⟩, .int .u32 (tx : Int)), (⟨ea.block, ea.off + 2, none⟩, .int .i64 yx), (⟨ea.block, ea.off + 3, none⟩, .slice xp1 xn1 xq1), (⟨ea.block, ea.off + 4, none⟩, .slice xp2 xn2 xq2), (⟨ea.block, ea.off + 5, none⟩, .slice xp3 xn3 xq3), (⟨ea.block, ea.off + 6, none⟩, .slice xp4 xn4 xq4), (eb, .slice yp0 yn0 yq0), (⟨eb.block, eb.off + 1, none⟩, .int .u32 (ty : Int)), (⟨eb.block, eb.off + 2, none⟩, .int .i64 yy), (⟨eb.block, eb.off + 3, none⟩, .slice yp1 yn1 yq1), (⟨eb.block, eb.off + 4, none⟩, .slice yp2 yn2 yq2), (⟨eb.block, eb.off + 5, none⟩, .slice yp3 yn3 yq3), (⟨eb.block, eb.off + 6, none⟩, .slice yp4 yn4 yq4)]) 15 rfl (by kernel_rfl) ?_
  intro w9 hw9
  have Bw9 : Hid (Below w4.heap.size w4 w9) := by subst hw9; exact HBW.out.drew
  have hS : (Cs [(ea, .slice xp0 xn0 xq0), (⟨ea.block, ea.off + 1, none⟩, .int .u32 (tx : Int)), (⟨ea.block, ea.off + 2, none⟩, .int .i64 yx), (⟨ea.block, ea.off + 3, none⟩, .slice xp1 xn1 xq1), (⟨ea.block, ea.off + 4, none⟩, .slice xp2 xn2 xq2), (⟨ea.block, ea.off + 5, none⟩, .slice xp3 xn3 xq3), (⟨ea.block, ea.off + 6, none⟩, .slice xp4 xn4 xq4), (eb, .slice yp0 yn0 yq0), (⟨eb.block, eb.off + 1, none⟩, .int .u32 (ty : Int)), (⟨eb.block, eb.off + 2, none⟩, .int .i64 yy), (⟨eb.block, eb.off + 3, none⟩, .slice yp1 yn1 yq1), (⟨eb.block, eb.off + 4, none⟩, .slice yp2 yn2 yq2), (⟨eb.block, eb.off + 5, none⟩, .slice yp3 yn3 yq3), (⟨eb.block, eb.off + 6, none⟩, .slice yp4 yn4 yq4)]) w9 := HCY.out w9 Bw9.out
  clear hw9
  refine tH 0 ?qav0 hS (fun w1 ⟨c0, c1, c2, c3, c4, c5, c6, d0, d1, d2, d3, d4, d5, d6, _⟩ => ?qay0) ?_
  case qay0 => (go_simp; try first | rfl | (rw [if_pos (by omega)]) | (rw [if_neg (by omega)]) | (rw [if_neg (by simp; omega)]) | (split <;> first | (exfalso; omega) | rfl))
  refine tH 1 ?qav1 hS (fun w1 ⟨c0, c1, c2, c3, c4, c5, c6, d0, d1, d2, d3, d4, d5, d6, _⟩ => ?qay1) ?_
  case qay1 => (go_simp; try first | rfl | (rw [if_pos (by omega)]) | (rw [if_neg (by omega)]) | (rw [if_neg (by simp; omega)]) | (split <;> first | (exfalso; omega) | rfl))
  refine tH 2 ?qav2 hS (fun w1 ⟨c0, c1, c2, c3, c4, c5, c6, d0, d1, d2, d3, d4, d5, d6, _⟩ => ?qay2) ?_
  case qay2 => (go_simp; try first | rfl | (rw [if_pos (by omega)]) | (rw [if_neg (by omega)]) | (rw [if_neg (by simp; omega)]) | (split <;> first | (exfalso; omega) | rfl))
  simp only [Act.put, List.setIfInBounds_toArray, List.set_cons_succ, List.set_cons_zero]
  refine tH 3 ?qbv3 hS (fun w1 ⟨c0, c1, c2, c3, c4, c5, c6, d0, d1, d2, d3, d4, d5, d6, _⟩ => ?qby3) ?_
  case qby3 => (go_simp; try first | rfl | (rw [if_pos (by omega)]) | (rw [if_neg (by omega)]) | (rw [if_neg (by simp; omega)]) | (split <;> first | (exfalso; omega) | rfl))
  refine tH 4 ?qbv4 hS (fun w1 ⟨c0, c1, c2, c3, c4, c5, c6, d0, d1, d2, d3, d4, d5, d6, _⟩ => ?qby4) ?_
  case qby4 => (go_simp; try first | rfl | (rw [if_pos (by omega)]) | (rw [if_neg (by omega)]) | (rw [if_neg (by simp; omega)]) | (split <;> first | (exfalso; omega) | rfl))
  refine tH 5 ?qbv5 hS (fun w1 ⟨c0, c1, c2, c3, c4, c5, c6, d0, d1, d2, d3, d4, d5, d6, _⟩ => ?qby5) ?_
  case qby5 => (go_simp; try first | rfl | (rw [if_pos (by omega)]) | (rw [if_neg (by omega)]) | (rw [if_neg (by simp; omega)]) | (split <;> first | (exfalso; omega) | rfl))
  refine tH 6 ?qbv6 hS (fun w1 ⟨c0, c1, c2, c3, c4, c5, c6, d0, d1, d2, d3, d4, d5, d6, _⟩ => ?qby6) ?_
  case qby6 => (go_simp; try first | rfl | (rw [if_pos (by omega)]) | (rw [if_neg (by omega)]) | (rw [if_neg (by simp; omega)]) | (split <;> first | (exfalso; omega) | rfl))
  refine tH 7 ?qbv7 hS (fun w1 ⟨c0, c1, c2, c3, c4, c5, c6, d0, d1, d2, d3, d4, d5, d6, _⟩ => ?qby7) ?_
  case qby7 => (go_simp; try first | rfl | (rw [if_pos (by omega)]) | (rw [if_neg (by omega)]) | (rw [if_neg (by simp; omega)]) | (split <;> first | (exfalso; omega) | rfl))
  refine tH 8 ?qbv8 hS (fun w1 ⟨c0, c1, c2, c3, c4, c5, c6, d0, d1, d2, d3, d4, d5, d6, _⟩ => ?qby8) ?_
  case qby8 => (go_simp; try first | rfl | (rw [if_pos (by omega)]) | (rw [if_neg (by omega)]) | (rw [if_neg (by simp; omega)]) | (split <;> first | (exfalso; omega) | rfl))
  refine tH 9 ?qbv9 hS (fun w1 ⟨c0, c1, c2, c3, c4, c5, c6, d0, d1, d2, d3, d4, d5, d6, _⟩ => ?qby9) ?_
  case qby9 => (go_simp; try first | rfl | (rw [if_pos (by omega)]) | (rw [if_neg (by omega)]) | (rw [if_neg (by simp; omega)]) | (split <;> first | (exfalso; omega) | rfl))
  refine tH 10 ?qbv10 hS (fun w1 ⟨c0, c1, c2, c3, c4, c5, c6, d0, d1, d2, d3, d4, d5, d6, _⟩ => ?qby10) ?_
  case qby10 => (go_simp; try first | rfl | (rw [if_pos (by omega)]) | (rw [if_neg (by omega)]) | (rw [if_neg (by simp; omega)]) | (split <;> first | (exfalso; omega) | rfl))
  refine tH 11 ?qbv11 hS (fun w1 ⟨c0, c1, c2, c3, c4, c5, c6, d0, d1, d2, d3, d4, d5, d6, _⟩ => ?qby11) ?_
  case qby11 => (go_simp; try first | rfl | (rw [if_pos (by omega)]) | (rw [if_neg (by omega)]) | (rw [if_neg (by simp; omega)]) | (split <;> first | (exfalso; omega) | rfl))
  simp only [Act.put, List.setIfInBounds_toArray, List.set_cons_succ, List.set_cons_zero]
  refine oneH 12 (by rfl) (by kernel_rfl) (fun K hK => ?_)
  gi_wp2_with (gi_at_call 14; refine (callsIn_wide.2 (HCM.out w9 Bw9.out)).mono ?_; rintro e9 wb ⟨rfl, b9⟩)
  have HB10 := Lib.hid (below5 Bw9.out b9)
  replace hS := HCY.out wb HB10.out
  refine hK _ _ (fun _ => hS) ?_
  clear hK K b9 HCM
  refine tH 13 ?qcv13 hS (fun w1 ⟨c0, c1, c2, c3, c4, c5, c6, d0, d1, d2, d3, d4, d5, d6, _⟩ => ?qcy13) ?_
  case qcy13 => (go_simp; try first | rfl | (rw [if_pos (by omega)]) | (rw [if_neg (by omega)]) | (rw [if_neg (by simp; omega)]) | (split <;> first | (exfalso; omega) | rfl))
  refine tH 14 ?qcv14 hS (fun w1 ⟨c0, c1, c2, c3, c4, c5, c6, d0, d1, d2, d3, d4, d5, d6, _⟩ => ?qcy14) ?_
  case qcy14 => (go_simp; try first | rfl | (rw [if_pos (by omega)]) | (rw [if_neg (by omega)]) | (rw [if_neg (by simp; omega)]) | (split <;> first | (exfalso; omega) | rfl))
  simp only [Act.put, List.setIfInBounds_toArray, List.set_cons_succ, List.set_cons_zero]
  refine doneH (by kernel_rfl) ?_
  clear hS HCY heb
  gi_wp2_with fail
  gi_loopw [5, 6] (fun v5 v6 W => ∃ k : Nat, k <= m /\ v6 = .int .i64 k /\ v5 = .bool ((L.take k).any (fun z : El w3 => (Rc.cmp z.1.2 x.1.2 == 0) && (z.1.2.ttl == x.1.2.ttl))) /\ Below w4.heap.size w4 W) (fun _ v6 _ => m - (intOf v6).toNat)
  case atStart => exact ⟨0, Nat.zero_le _, rfl, rfl, HB10.out⟩
  case round =>
  obtain ⟨k, hk, rfl, rfl, hbw⟩ := hrel
  have HBK := Lib.hid hbw
  clear hbw
  by_cases hkt : k < m
  case neg =>
   have hkz : ¬ ((k : Int) < (m : Int)) := by omega
   have hon : (L.take k).any (fun z : El w3 => (Rc.cmp z.1.2 x.1.2 == 0) && (z.1.2.ttl == x.1.2.ttl)) = true := by
    rw [List.take_of_length_le (by rw [HLM.out]; omega)]; exact HON.out
   rw [hon]
   clear hon
   gi_wp2_with fail
   go_roundw
   case rel => exact ⟨i + 1, hlt, by go_num, HBK.out⟩
   case measure => simp [intOf]; omega
  case pos =>
  have hkz : (k : Int) < (m : Int) := by omega
  have hka : k < L.length := by rw [HLM.out]; exact hkt
  obtain ⟨gs, sp0, sn0, sq0, sp1, sn1, sq1, sp2, sn2, sq2, sp3, sn3, sq3, sp4, sn4, sq4, hos, hrs, hcs⟩ := rd7 VL4.out k hka
  obtain ⟨s, hxs⟩ : ∃ x, L[k] = x := ⟨_, rfl⟩
  rw [hxs] at hrs hcs
  obtain ⟨ts, hts⟩ : ∃ t, s.1.2.ttl = t := ⟨_, rfl⟩
  obtain ⟨ys, hys⟩ : ∃ t, s.1.2.type = t := ⟨_, rfl⟩
  rw [hts, hys] at hrs hcs
  obtain ⟨ek, hek⟩ : ∃ q, gs.add (k * 7) = q := ⟨_, rfl⟩
  rw [hek] at hcs
  have HsC := Lib.hid hcs
  have HsR := Lib.hid hrs
  clear hcs hrs
  subst hos
  obtain ⟨bz, hbz⟩ : ∃ b, (Rc.cmp s.1.2 x.1.2 == 0) = b := ⟨_, rfl⟩
  have HSM : Hid (∀ W', Below w4.heap.size w4 W' -> Calls Tryz.prog 15 #[.agg #[.slice sp0 sn0 sq0, .int .u32 (ts : Int), .int .i64 ys, .slice sp1 sn1 sq1, .slice sp2 sn2 sq2, .slice sp3 sn3 sq3, .slice sp4 sn4 sq4], .agg #[.slice xp0 xn0 xq0, .int .u32 (tx : Int), .int .i64 yx, .slice xp1 xn1 xq1, .slice xp2 xn2 xq2, .slice xp3 xn3 xq3, .slice xp4 xn4 xq4]] W' (Gives (.bool bz) W')) := fun W' hW => by
   have h := recSame_any [.slice sp0 sn0 sq0, .int .u32 (ts : Int), .int .i64 ys, .slice sp1 sn1 sq1, .slice sp2 sn2 sq2, .slice sp3 sn3 sq3, .slice sp4 sn4 sq4] [.slice xp0 xn0 xq0, .int .u32 (tx : Int), .int .i64 yx, .slice xp1 xn1 xq1, .slice xp2 xn2 xq2, .slice xp3 xn3 xq3, .slice xp4 xn4 xq4] s.1.2 x.1.2 W' (HsR.out.below (below5 HB4.out hW)) (HxR.out.below (below5 HB4.out hW)) s.2.2 x.2.2
   rw [hbz] at h; exact h
  obtain ⟨bk, hbk⟩ : ∃ b, (L.take k).any (fun z : El w3 => (Rc.cmp z.1.2 x.1.2 == 0) && (z.1.2.ttl == x.1.2.ttl)) = b := ⟨_, rfl⟩
  obtain ⟨bq, hbq⟩ : ∃ b, ((ts : Int) == (tx : Int)) = b := ⟨_, rfl⟩
  have HNX : Hid ((L.take (k + 1)).any (fun z : El w3 => (Rc.cmp z.1.2 x.1.2 == 0) && (z.1.2.ttl == x.1.2.ttl)) = (bk || (bz && bq))) := by
   show _ = _
   rw [List.take_succ_eq_append_getElem hka, List.any_append, hbk, hxs]
   have hq : (s.1.2.ttl == x.1.2.ttl) = bq := by rw [<- hbq, hts, htx]; exact Bool.eq_iff_iff.2 (by simp; omega)
   simp [hbz, hq]
  have hle : bz = true -> ¬ ((ts : Int) < (tx : Int)) := fun h => by
   have := HLE.out s (by rw [<- hxs]; exact List.getElem_mem hka) (by rw [hbz]; exact h)
   rw [hts, htx] at this; omega
  have HCS : Hid (∀ W', Below w4.heap.size w4 W' -> (Cs [(ea, .slice xp0 xn0 xq0), (⟨ea.block, ea.off + 1, none⟩, .int .u32 (tx : Int)), (⟨ea.block, ea.off + 2, none⟩, .int .i64 yx), (⟨ea.block, ea.off + 3, none⟩, .slice xp1 xn1 xq1), (⟨ea.block, ea.off + 4, none⟩, .slice xp2 xn2 xq2), (⟨ea.block, ea.off + 5, none⟩, .slice xp3 xn3 xq3), (⟨ea.block, ea.off + 6, none⟩, .slice xp4 xn4 xq4), (ek, .slice sp0 sn0 sq0), (⟨ek.block, ek.off + 1, none⟩, .int .u32 (ts : Int)), (⟨ek.block, ek.off + 2, none⟩, .int .i64 ys), (⟨ek.block, ek.off + 3, none⟩, .slice sp1 sn1 sq1), (⟨ek.block, ek.off + 4, none⟩, .slice sp2 sn2 sq2), (⟨ek.block, ek.off + 5, none⟩, .slice sp3 sn3 sq3), (⟨ek.block, ek.off + 6, none⟩, .slice sp4 sn4 sq4)]) W') := fun W' hW => by
   obtain ⟨c0, c1, c2, c3, c4, c5, c6, _⟩ := HxC.out W' hW
   obtain ⟨d0, d1, d2, d3, d4, d5, d6, _⟩ := HsC.out W' hW
   exact ⟨c0, c1, c2, c3, c4, c5, c6, d0, d1, d2, d3, d4, d5, d6, trivial⟩
  rw [hbk]
  have HQ := Lib.hid hle
  clear hbk hbz hle hts hys hxs
  gi_wp2_with fail
  refine drawnH [3, 7] (Cs [(ea, .slice xp0 xn0 xq0), (⟨ea.block, ea.off + 1, none⟩, .int .u32 (tx : Int)), (⟨ea.block, ea.off + 2, none⟩, .int .i64 yx), (⟨ea.block, ea.off + 3, none⟩, .slice xp1 xn1 xq1), (⟨ea.block, ea.off + 4, none⟩, .slice xp2 xn2 xq2), (⟨ea.block, ea.off + 5, none⟩, .slice xp3 xn3 xq3), (⟨ea.block, ea.off + 6, none⟩, .slice xp4 xn4 xq4), (ek, .slice sp0 sn0 sq0), (⟨ek.block, ek.off + 1, none⟩, .int .u32 (ts : Int)), (⟨ek.block, ek.off + 2, none⟩, .int .i64 ys), (⟨ek.block, ek.off + 3, none⟩, .slice sp1 sn1 sq1), (⟨ek.block, ek.off + 4, none⟩, .slice sp2 sn2 sq2), (⟨ek.block, ek.off + 5, none⟩, .slice sp3 sn3 sq3), (⟨ek.block, ek.off + 6, none⟩, .slice sp4 sn4 sq4)]) 9 rfl (by kernel_rfl) ?_
  intro wa hwa
  have Bwa : Hid (Below w4.heap.size w4 wa) := by subst hwa; exact HBK.out.drew
  have hS : (Cs [(ea, .slice xp0 xn0 xq0), (⟨ea.block, ea.off + 1, none⟩, .int .u32 (tx : Int)), (⟨ea.block, ea.off + 2, none⟩, .int .i64 yx), (⟨ea.block, ea.off + 3, none⟩, .slice xp1 xn1 xq1), (⟨ea.block, ea.off + 4, none⟩, .slice xp2 xn2 xq2), (⟨ea.block, ea.off + 5, none⟩, .slice xp3 xn3 xq3), (⟨ea.block, ea.off + 6, none⟩, .slice xp4 xn4 xq4), (ek, .slice sp0 sn0 sq0), (⟨ek.block, ek.off + 1, none⟩, .int .u32 (ts : Int)), (⟨ek.block, ek.off + 2, none⟩, .int .i64 ys), (⟨ek.block, ek.off + 3, none⟩, .slice sp1 sn1 sq1), (⟨ek.block, ek.off + 4, none⟩, .slice sp2 sn2 sq2), (⟨ek.block, ek.off + 5, none⟩, .slice sp3 sn3 sq3), (⟨ek.block, ek.off + 6, none⟩, .slice sp4 sn4 sq4)]) wa := HCS.out wa Bwa.out
  clear hwa
  refine tP 0 ?qiav0 (fun w1 _ => ?qiay0) ?_
  case qiay0 => (go_simp; try first | rfl | (rw [if_pos (by omega)]) | (rw [if_neg (by omega)]) | (rw [if_neg (by simp; omega)]) | (split <;> first | (exfalso; omega) | rfl))
  refine tP 1 ?qiav1 (fun w1 _ => ?qiay1) ?_
  case qiay1 => (go_simp; try first | rfl | (rw [if_pos (by omega)]) | (rw [if_neg (by omega)]) | (rw [if_neg (by simp; omega)]) | (split <;> first | (exfalso; omega) | rfl))
  refine tP 2 ?qiav2 (fun w1 _ => ?qiay2) ?_
  case qiay2 => (go_simp; try first | rfl | (rw [if_pos (by omega)]) | (rw [if_neg (by omega)]) | (rw [if_neg (by simp; omega)]) | (split <;> first | (exfalso; omega) | rfl))
  refine tP 4 ?qiav4 (fun w1 _ => ?qiay4) ?_
  case qiay4 => (go_simp; try first | rfl | (rw [if_pos (by omega)]) | (rw [if_neg (by omega)]) | (rw [if_neg (by simp; omega)]) | (split <;> first | (exfalso; omega) | rfl))
  refine tP 5 ?qiav5 (fun w1 _ => ?qiay5) ?_
  case qiay5 => (go_simp; try first | rfl | (rw [if_pos (by omega)]) | (rw [if_neg (by omega)]) | (rw [if_neg (by simp; omega)]) | (split <;> first | (exfalso; omega) | rfl))
  refine tP 6 ?qiav6 (fun w1 _ => ?qiay6) ?_
  case qiay6 => (go_simp; try first | rfl | (rw [if_pos (by omega)]) | (rw [if_neg (by omega)]) | (rw [if_neg (by simp; omega)]) | (split <;> first | (exfalso; omega) | rfl))
  simp only [Act.put, List.setIfInBounds_toArray, List.set_cons_succ, List.set_cons_zero]
  refine tH 3 ?qiav3 hS (fun w1 ⟨c0, c1, c2, c3, c4, c5, c6, d0, d1, d2, d3, d4, d5, d6, _⟩ => ?qiay3) ?_
  case qiay3 => (go_simp; try first | rfl | (rw [if_pos (by omega)]) | (rw [if_neg (by omega)]) | (rw [if_neg (by simp; omega)]) | (split <;> first | (exfalso; omega) | rfl))
  refine tH 7 ?qiav7 hS (fun w1 ⟨c0, c1, c2, c3, c4, c5, c6, d0, d1, d2, d3, d4, d5, d6, _⟩ => ?qiay7) ?_
  case qiay7 => (go_simp; try first | rfl | (rw [if_pos (by omega)]) | (rw [if_neg (by omega)]) | (rw [if_neg (by simp; omega)]) | (split <;> first | (exfalso; omega) | rfl))
  simp only [Act.put, List.setIfInBounds_toArray, List.set_cons_succ, List.set_cons_zero]
  refine oneH 8 (by rfl) (by kernel_rfl) (fun K hK => ?_)
  gi_wp2_with (gi_at_call 15; refine (callsIn_wide.2 (HSM.out wa Bwa.out)).mono ?_; rintro e8 wb ⟨rfl, b8⟩)
  have HBB := Lib.hid (below5 Bwa.out b8)
  replace hS := HCS.out wb HBB.out
  refine hK _ _ (fun h => absurd h (by decide)) ?_
  clear hK K b8 hS HSM
  refine doneH (by kernel_rfl) ?_
  cases bz with
  | false =>
   gi_wp2_with fail
   exact ⟨⟨k + 1, hkt, by go_num, by rw [HNX.out, Bool.false_and, Bool.or_false], HBB.out⟩, by simp [intOf]; omega⟩
  | true =>
  have hq17 : ¬ ((ts : Int) < (tx : Int)) := by have := HQ.out rfl; omega
  cases bk with
  | true =>
   gi_wp2_with fail
   refine drawnH (List.range 14) (Cs [(ea, .slice xp0 xn0 xq0), (⟨ea.block, ea.off + 1, none⟩, .int .u32 (tx : Int)), (⟨ea.block, ea.off + 2, none⟩, .int .i64 yx), (⟨ea.block, ea.off + 3, none⟩, .slice xp1 xn1 xq1), (⟨ea.block, ea.off + 4, none⟩, .slice xp2 xn2 xq2), (⟨ea.block, ea.off + 5, none⟩, .slice xp3 xn3 xq3), (⟨ea.block, ea.off + 6, none⟩, .slice xp4 xn4 xq4), (ek, .slice sp0 sn0 sq0), (⟨ek.block, ek.off + 1, none⟩, .int .u32 (ts : Int)), (⟨ek.block, ek.off + 2, none⟩, .int .i64 ys), (⟨ek.block, ek.off + 3, none⟩, .slice sp1 sn1 sq1), (⟨ek.block, ek.off + 4, none⟩, .slice sp2 sn2 sq2), (⟨ek.block, ek.off + 5, none⟩, .slice sp3 sn3 sq3), (⟨ek.block, ek.off + 6, none⟩, .slice sp4 sn4 sq4)]) 15 rfl (by kernel_rfl) ?_
   intro wc hwc
   have Bwc : Hid (Below w4.heap.size w4 wc) := by subst hwc; exact HBB.out.drew
   have hS : (Cs [(ea, .slice xp0 xn0 xq0), (⟨ea.block, ea.off + 1, none⟩, .int .u32 (tx : Int)), (⟨ea.block, ea.off + 2, none⟩, .int .i64 yx), (⟨ea.block, ea.off + 3, none⟩, .slice xp1 xn1 xq1), (⟨ea.block, ea.off + 4, none⟩, .slice xp2 xn2 xq2), (⟨ea.block, ea.off + 5, none⟩, .slice xp3 xn3 xq3), (⟨ea.block, ea.off + 6, none⟩, .slice xp4 xn4 xq4), (ek, .slice sp0 sn0 sq0), (⟨ek.block, ek.off + 1, none⟩, .int .u32 (ts : Int)), (⟨ek.block, ek.off + 2, none⟩, .int .i64 ys), (⟨ek.block, ek.off + 3, none⟩, .slice sp1 sn1 sq1), (⟨ek.block, ek.off + 4, none⟩, .slice sp2 sn2 sq2), (⟨ek.block, ek.off + 5, none⟩, .slice sp3 sn3 sq3), (⟨ek.block, ek.off + 6, none⟩, .slice sp4 sn4 sq4)]) wc := HCS.out wc Bwc.out
   clear hwc
   refine tH 0 ?qibv0 hS (fun w1 ⟨c0, c1, c2, c3, c4, c5, c6, d0, d1, d2, d3, d4, d5, d6, _⟩ => ?qiby0) ?_
   case qiby0 => (go_simp; try first | rfl | (rw [if_pos (by omega)]) | (rw [if_neg (by omega)]) | (rw [if_neg (by simp; omega)]) | (split <;> first | (exfalso; omega) | rfl))
   refine tH 1 ?qibv1 hS (fun w1 ⟨c0, c1, c2, c3, c4, c5, c6, d0, d1, d2, d3, d4, d5, d6, _⟩ => ?qiby1) ?_
   case qiby1 => (go_simp; try first | rfl | (rw [if_pos (by omega)]) | (rw [if_neg (by omega)]) | (rw [if_neg (by simp; omega)]) | (split <;> first | (exfalso; omega) | rfl))
   simp only [Act.put, List.setIfInBounds_toArray, List.set_cons_succ, List.set_cons_zero]
   refine tU 2 hS ?_
   refine tU 3 hS ?_
   refine tU 4 hS ?_
   refine tU 5 hS ?_
   refine tU 6 hS ?_
   refine tU 7 hS ?_
   refine tU 8 hS ?_
   refine tU 9 hS ?_
   refine tU 10 hS ?_
   refine tU 11 hS ?_
   refine tU 12 hS ?_
   simp only [Act.put, List.setIfInBounds_toArray, List.set_cons_succ, List.set_cons_zero]
   refine tH 13 ?qicv13 hS (fun w1 ⟨c0, c1, c2, c3, c4, c5, c6, d0, d1, d2, d3, d4, d5, d6, _⟩ => ?qicy13) ?_
   case qicy13 => (go_simp; try first | rfl | (rw [if_pos (by omega)]) | (rw [if_neg (by omega)]) | (rw [if_neg (by simp; omega)]) | (split <;> first | (exfalso; omega) | rfl))
   simp only [Act.put, List.setIfInBounds_toArray, List.set_cons_succ, List.set_cons_zero]
   refine oneH 14 (by rfl) (by kernel_rfl) (fun K hK => ?_)
   gi_wp2_with fail
   refine hK _ _ (fun h => absurd h (by decide)) ?_
   clear hK K hS
   refine doneH (by kernel_rfl) ?_
   gi_wp2_with fail
   refine drawnH (List.range 11) (Cs [(ea, .slice xp0 xn0 xq0), (⟨ea.block, ea.off + 1, none⟩, .int .u32 (tx : Int)), (⟨ea.block, ea.off + 2, none⟩, .int .i64 yx), (⟨ea.block, ea.off + 3, none⟩, .slice xp1 xn1 xq1), (⟨ea.block, ea.off + 4, none⟩, .slice xp2 xn2 xq2), (⟨ea.block, ea.off + 5, none⟩, .slice xp3 xn3 xq3), (⟨ea.block, ea.off + 6, none⟩, .slice xp4 xn4 xq4), (ek, .slice sp0 sn0 sq0), (⟨ek.block, ek.off + 1, none⟩, .int .u32 (ts : Int)), (⟨ek.block, ek.off + 2, none⟩, .int .i64 ys), (⟨ek.block, ek.off + 3, none⟩, .slice sp1 sn1 sq1), (⟨ek.block, ek.off + 4, none⟩, .slice sp2 sn2 sq2), (⟨ek.block, ek.off + 5, none⟩, .slice sp3 sn3 sq3), (⟨ek.block, ek.off + 6, none⟩, .slice sp4 sn4 sq4)]) 11 rfl (by kernel_rfl) ?_
   intro wd hwd
   have Bwd : Hid (Below w4.heap.size w4 wd) := by subst hwd; exact Bwc.out.drew
   have hS : (Cs [(ea, .slice xp0 xn0 xq0), (⟨ea.block, ea.off + 1, none⟩, .int .u32 (tx : Int)), (⟨ea.block, ea.off + 2, none⟩, .int .i64 yx), (⟨ea.block, ea.off + 3, none⟩, .slice xp1 xn1 xq1), (⟨ea.block, ea.off + 4, none⟩, .slice xp2 xn2 xq2), (⟨ea.block, ea.off + 5, none⟩, .slice xp3 xn3 xq3), (⟨ea.block, ea.off + 6, none⟩, .slice xp4 xn4 xq4), (ek, .slice sp0 sn0 sq0), (⟨ek.block, ek.off + 1, none⟩, .int .u32 (ts : Int)), (⟨ek.block, ek.off + 2, none⟩, .int .i64 ys), (⟨ek.block, ek.off + 3, none⟩, .slice sp1 sn1 sq1), (⟨ek.block, ek.off + 4, none⟩, .slice sp2 sn2 sq2), (⟨ek.block, ek.off + 5, none⟩, .slice sp3 sn3 sq3), (⟨ek.block, ek.off + 6, none⟩, .slice sp4 sn4 sq4)]) wd := HCS.out wd Bwd.out
   clear hwd
   refine tH 0 ?qidv0 hS (fun w1 ⟨c0, c1, c2, c3, c4, c5, c6, d0, d1, d2, d3, d4, d5, d6, _⟩ => ?qidy0) ?_
   case qidy0 => (go_simp; try first | rfl | (rw [if_pos (by omega)]) | (rw [if_neg (by omega)]) | (rw [if_neg (by simp; omega)]) | (split <;> first | (exfalso; omega) | rfl))
   refine tH 1 ?qidv1 hS (fun w1 ⟨c0, c1, c2, c3, c4, c5, c6, d0, d1, d2, d3, d4, d5, d6, _⟩ => ?qidy1) ?_
   case qidy1 => (go_simp; try first | rfl | (rw [if_pos (by omega)]) | (rw [if_neg (by omega)]) | (rw [if_neg (by simp; omega)]) | (split <;> first | (exfalso; omega) | rfl))
   refine tH 2 ?qidv2 hS (fun w1 ⟨c0, c1, c2, c3, c4, c5, c6, d0, d1, d2, d3, d4, d5, d6, _⟩ => ?qidy2) ?_
   case qidy2 => (go_simp; try first | rfl | (rw [if_pos (by omega)]) | (rw [if_neg (by omega)]) | (rw [if_neg (by simp; omega)]) | (split <;> first | (exfalso; omega) | rfl))
   refine tH 3 ?qidv3 hS (fun w1 ⟨c0, c1, c2, c3, c4, c5, c6, d0, d1, d2, d3, d4, d5, d6, _⟩ => ?qidy3) ?_
   case qidy3 => (go_simp; try first | rfl | (rw [if_pos (by omega)]) | (rw [if_neg (by omega)]) | (rw [if_neg (by simp; omega)]) | (split <;> first | (exfalso; omega) | rfl))
   refine tH 4 ?qidv4 hS (fun w1 ⟨c0, c1, c2, c3, c4, c5, c6, d0, d1, d2, d3, d4, d5, d6, _⟩ => ?qidy4) ?_
   case qidy4 => (go_simp; try first | rfl | (rw [if_pos (by omega)]) | (rw [if_neg (by omega)]) | (rw [if_neg (by simp; omega)]) | (split <;> first | (exfalso; omega) | rfl))
   refine tH 5 ?qidv5 hS (fun w1 ⟨c0, c1, c2, c3, c4, c5, c6, d0, d1, d2, d3, d4, d5, d6, _⟩ => ?qidy5) ?_
   case qidy5 => (go_simp; try first | rfl | (rw [if_pos (by omega)]) | (rw [if_neg (by omega)]) | (rw [if_neg (by simp; omega)]) | (split <;> first | (exfalso; omega) | rfl))
   refine tH 6 ?qidv6 hS (fun w1 ⟨c0, c1, c2, c3, c4, c5, c6, d0, d1, d2, d3, d4, d5, d6, _⟩ => ?qidy6) ?_
   case qidy6 => (go_simp; try first | rfl | (rw [if_pos (by omega)]) | (rw [if_neg (by omega)]) | (rw [if_neg (by simp; omega)]) | (split <;> first | (exfalso; omega) | rfl))
   refine tH 7 ?qidv7 hS (fun w1 ⟨c0, c1, c2, c3, c4, c5, c6, d0, d1, d2, d3, d4, d5, d6, _⟩ => ?qidy7) ?_
   case qidy7 => (go_simp; try first | rfl | (rw [if_pos (by omega)]) | (rw [if_neg (by omega)]) | (rw [if_neg (by simp; omega)]) | (split <;> first | (exfalso; omega) | rfl))
   refine tH 8 ?qidv8 hS (fun w1 ⟨c0, c1, c2, c3, c4, c5, c6, d0, d1, d2, d3, d4, d5, d6, _⟩ => ?qidy8) ?_
   case qidy8 => (go_simp; try first | rfl | (rw [if_pos (by omega)]) | (rw [if_neg (by omega)]) | (rw [if_neg (by simp; omega)]) | (split <;> first | (exfalso; omega) | rfl))
   refine tH 9 ?qidv9 hS (fun w1 ⟨c0, c1, c2, c3, c4, c5, c6, d0, d1, d2, d3, d4, d5, d6, _⟩ => ?qidy9) ?_
   case qidy9 => (go_simp; try first | rfl | (rw [if_pos (by omega)]) | (rw [if_neg (by omega)]) | (rw [if_neg (by simp; omega)]) | (split <;> first | (exfalso; omega) | rfl))
   refine tH 10 ?qidv10 hS (fun w1 ⟨c0, c1, c2, c3, c4, c5, c6, d0, d1, d2, d3, d4, d5, d6, _⟩ => ?qidy10) ?_
   case qidy10 => (go_simp; try first | rfl | (rw [if_pos (by omega)]) | (rw [if_neg (by omega)]) | (rw [if_neg (by simp; omega)]) | (split <;> first | (exfalso; omega) | rfl))
   simp only [Act.put, List.setIfInBounds_toArray, List.set_cons_succ, List.set_cons_zero]
   refine doneH (by kernel_rfl) ?_
   clear hS
   gi_wp2_with fail
   exact ⟨⟨k + 1, hkt, by go_num, by rw [HNX.out, Bool.true_or], Bwd.out⟩, by simp [intOf]; omega⟩
  | false =>
   gi_wp2_with fail
   refine drawnH (List.range 14) (Cs [(ea, .slice xp0 xn0 xq0), (⟨ea.block, ea.off + 1, none⟩, .int .u32 (tx : Int)), (⟨ea.block, ea.off + 2, none⟩, .int .i64 yx), (⟨ea.block, ea.off + 3, none⟩, .slice xp1 xn1 xq1), (⟨ea.block, ea.off + 4, none⟩, .slice xp2 xn2 xq2), (⟨ea.block, ea.off + 5, none⟩, .slice xp3 xn3 xq3), (⟨ea.block, ea.off + 6, none⟩, .slice xp4 xn4 xq4), (ek, .slice sp0 sn0 sq0), (⟨ek.block, ek.off + 1, none⟩, .int .u32 (ts : Int)), (⟨ek.block, ek.off + 2, none⟩, .int .i64 ys), (⟨ek.block, ek.off + 3, none⟩, .slice sp1 sn1 sq1), (⟨ek.block, ek.off + 4, none⟩, .slice sp2 sn2 sq2), (⟨ek.block, ek.off + 5, none⟩, .slice sp3 sn3 sq3), (⟨ek.block, ek.off + 6, none⟩, .slice sp4 sn4 sq4)]) 15 rfl (by kernel_rfl) ?_
   intro wc hwc
   have Bwc : Hid (Below w4.heap.size w4 wc) := by subst hwc; exact HBB.out.drew
   have hS : (Cs [(ea, .slice xp0 xn0 xq0), (⟨ea.block, ea.off + 1, none⟩, .int .u32 (tx : Int)), (⟨ea.block, ea.off + 2, none⟩, .int .i64 yx), (⟨ea.block, ea.off + 3, none⟩, .slice xp1 xn1 xq1), (⟨ea.block, ea.off + 4, none⟩, .slice xp2 xn2 xq2), (⟨ea.block, ea.off + 5, none⟩, .slice xp3 xn3 xq3), (⟨ea.block, ea.off + 6, none⟩, .slice xp4 xn4 xq4), (ek, .slice sp0 sn0 sq0), (⟨ek.block, ek.off + 1, none⟩, .int .u32 (ts : Int)), (⟨ek.block, ek.off + 2, none⟩, .int .i64 ys), (⟨ek.block, ek.off + 3, none⟩, .slice sp1 sn1 sq1), (⟨ek.block, ek.off + 4, none⟩, .slice sp2 sn2 sq2), (⟨ek.block, ek.off + 5, none⟩, .slice sp3 sn3 sq3), (⟨ek.block, ek.off + 6, none⟩, .slice sp4 sn4 sq4)]) wc := HCS.out wc Bwc.out
   clear hwc
   refine tH 0 ?qiev0 hS (fun w1 ⟨c0, c1, c2, c3, c4, c5, c6, d0, d1, d2, d3, d4, d5, d6, _⟩ => ?qiey0) ?_
   case qiey0 => (go_simp; try first | rfl | (rw [if_pos (by omega)]) | (rw [if_neg (by omega)]) | (rw [if_neg (by simp; omega)]) | (split <;> first | (exfalso; omega) | rfl))
   refine tH 1 ?qiev1 hS (fun w1 ⟨c0, c1, c2, c3, c4, c5, c6, d0, d1, d2, d3, d4, d5, d6, _⟩ => ?qiey1) ?_
   case qiey1 => (go_simp; try first | rfl | (rw [if_pos (by omega)]) | (rw [if_neg (by omega)]) | (rw [if_neg (by simp; omega)]) | (split <;> first | (exfalso; omega) | rfl))
   refine tH 2 ?qiev2 hS (fun w1 ⟨c0, c1, c2, c3, c4, c5, c6, d0, d1, d2, d3, d4, d5, d6, _⟩ => ?qiey2) ?_
   case qiey2 => (go_simp; try first | rfl | (rw [if_pos (by omega)]) | (rw [if_neg (by omega)]) | (rw [if_neg (by simp; omega)]) | (split <;> first | (exfalso; omega) | rfl))
   refine tH 3 ?qiev3 hS (fun w1 ⟨c0, c1, c2, c3, c4, c5, c6, d0, d1, d2, d3, d4, d5, d6, _⟩ => ?qiey3) ?_
   case qiey3 => (go_simp; try first | rfl | (rw [if_pos (by omega)]) | (rw [if_neg (by omega)]) | (rw [if_neg (by simp; omega)]) | (split <;> first | (exfalso; omega) | rfl))
   refine tH 4 ?qiev4 hS (fun w1 ⟨c0, c1, c2, c3, c4, c5, c6, d0, d1, d2, d3, d4, d5, d6, _⟩ => ?qiey4) ?_
   case qiey4 => (go_simp; try first | rfl | (rw [if_pos (by omega)]) | (rw [if_neg (by omega)]) | (rw [if_neg (by simp; omega)]) | (split <;> first | (exfalso; omega) | rfl))
   refine tH 5 ?qiev5 hS (fun w1 ⟨c0, c1, c2, c3, c4, c5, c6, d0, d1, d2, d3, d4, d5, d6, _⟩ => ?qiey5) ?_
   case qiey5 => (go_simp; try first | rfl | (rw [if_pos (by omega)]) | (rw [if_neg (by omega)]) | (rw [if_neg (by simp; omega)]) | (split <;> first | (exfalso; omega) | rfl))
   refine tH 6 ?qiev6 hS (fun w1 ⟨c0, c1, c2, c3, c4, c5, c6, d0, d1, d2, d3, d4, d5, d6, _⟩ => ?qiey6) ?_
   case qiey6 => (go_simp; try first | rfl | (rw [if_pos (by omega)]) | (rw [if_neg (by omega)]) | (rw [if_neg (by simp; omega)]) | (split <;> first | (exfalso; omega) | rfl))
   refine tH 7 ?qiev7 hS (fun w1 ⟨c0, c1, c2, c3, c4, c5, c6, d0, d1, d2, d3, d4, d5, d6, _⟩ => ?qiey7) ?_
   case qiey7 => (go_simp; try first | rfl | (rw [if_pos (by omega)]) | (rw [if_neg (by omega)]) | (rw [if_neg (by simp; omega)]) | (split <;> first | (exfalso; omega) | rfl))
   refine tH 8 ?qiev8 hS (fun w1 ⟨c0, c1, c2, c3, c4, c5, c6, d0, d1, d2, d3, d4, d5, d6, _⟩ => ?qiey8) ?_
   case qiey8 => (go_simp; try first | rfl | (rw [if_pos (by omega)]) | (rw [if_neg (by omega)]) | (rw [if_neg (by simp; omega)]) | (split <;> first | (exfalso; omega) | rfl))
   refine tH 9 ?qiev9 hS (fun w1 ⟨c0, c1, c2, c3, c4, c5, c6, d0, d1, d2, d3, d4, d5, d6, _⟩ => ?qiey9) ?_
   case qiey9 => (go_simp; try first | rfl | (rw [if_pos (by omega)]) | (rw [if_neg (by omega)]) | (rw [if_neg (by simp; omega)]) | (split <;> first | (exfalso; omega) | rfl))
   refine tH 10 ?qiev10 hS (fun w1 ⟨c0, c1, c2, c3, c4, c5, c6, d0, d1, d2, d3, d4, d5, d6, _⟩ => ?qiey10) ?_
   case qiey10 => (go_simp; try first | rfl | (rw [if_pos (by omega)]) | (rw [if_neg (by omega)]) | (rw [if_neg (by simp; omega)]) | (split <;> first | (exfalso; omega) | rfl))
   refine tH 11 ?qiev11 hS (fun w1 ⟨c0, c1, c2, c3, c4, c5, c6, d0, d1, d2, d3, d4, d5, d6, _⟩ => ?qiey11) ?_
   case qiey11 => (go_simp; try first | rfl | (rw [if_pos (by omega)]) | (rw [if_neg (by omega)]) | (rw [if_neg (by simp; omega)]) | (split <;> first | (exfalso; omega) | rfl))
   refine tH 12 ?qiev12 hS (fun w1 ⟨c0, c1, c2, c3, c4, c5, c6, d0, d1, d2, d3, d4, d5, d6, _⟩ => ?qiey12) ?_
   case qiey12 => (go_simp; try first | rfl | (rw [if_pos (by omega)]) | (rw [if_neg (by omega)]) | (rw [if_neg (by simp; omega)]) | (split <;> first | (exfalso; omega) | rfl))
   refine tH 13 ?qiev13 hS (fun w1 ⟨c0, c1, c2, c3, c4, c5, c6, d0, d1, d2, d3, d4, d5, d6, _⟩ => ?qiey13) ?_
   case qiey13 => (go_simp; try first | rfl | (rw [if_pos (by omega)]) | (rw [if_neg (by omega)]) | (rw [if_neg (by simp; omega)]) | (split <;> first | (exfalso; omega) | rfl))
   simp only [Act.put, List.setIfInBounds_toArray, List.set_cons_succ, List.set_cons_zero]
   refine oneH 14 (by rfl) (by kernel_rfl) (fun K hK => ?_)
   gi_wp2_with fail
   refine hK _ _ (fun h => absurd h (by decide)) ?_
   clear hK K hS
   refine doneH (by kernel_rfl) ?_
   gi_wp2_with fail
   refine drawnH (List.range 11) (Cs [(ea, .slice xp0 xn0 xq0), (⟨ea.block, ea.off + 1, none⟩, .int .u32 (tx : Int)), (⟨ea.block, ea.off + 2, none⟩, .int .i64 yx), (⟨ea.block, ea.off + 3, none⟩, .slice xp1 xn1 xq1), (⟨ea.block, ea.off + 4, none⟩, .slice xp2 xn2 xq2), (⟨ea.block, ea.off + 5, none⟩, .slice xp3 xn3 xq3), (⟨ea.block, ea.off + 6, none⟩, .slice xp4 xn4 xq4), (ek, .slice sp0 sn0 sq0), (⟨ek.block, ek.off + 1, none⟩, .int .u32 (ts : Int)), (⟨ek.block, ek.off + 2, none⟩, .int .i64 ys), (⟨ek.block, ek.off + 3, none⟩, .slice sp1 sn1 sq1), (⟨ek.block, ek.off + 4, none⟩, .slice sp2 sn2 sq2), (⟨ek.block, ek.off + 5, none⟩, .slice sp3 sn3 sq3), (⟨ek.block, ek.off + 6, none⟩, .slice sp4 sn4 sq4)]) 11 rfl (by kernel_rfl) ?_
   intro wd hwd
   have Bwd : Hid (Below w4.heap.size w4 wd) := by subst hwd; exact Bwc.out.drew
   have hS : (Cs [(ea, .slice xp0 xn0 xq0), (⟨ea.block, ea.off + 1, none⟩, .int .u32 (tx : Int)), (⟨ea.block, ea.off + 2, none⟩, .int .i64 yx), (⟨ea.block, ea.off + 3, none⟩, .slice xp1 xn1 xq1), (⟨ea.block, ea.off + 4, none⟩, .slice xp2 xn2 xq2), (⟨ea.block, ea.off + 5, none⟩, .slice xp3 xn3 xq3), (⟨ea.block, ea.off + 6, none⟩, .slice xp4 xn4 xq4), (ek, .slice sp0 sn0 sq0), (⟨ek.block, ek.off + 1, none⟩, .int .u32 (ts : Int)), (⟨ek.block, ek.off + 2, none⟩, .int .i64 ys), (⟨ek.block, ek.off + 3, none⟩, .slice sp1 sn1 sq1), (⟨ek.block, ek.off + 4, none⟩, .slice sp2 sn2 sq2), (⟨ek.block, ek.off + 5, none⟩, .slice sp3 sn3 sq3), (⟨ek.block, ek.off + 6, none⟩, .slice sp4 sn4 sq4)]) wd := HCS.out wd Bwd.out
   clear hwd
   refine tH 0 ?qifv0 hS (fun w1 ⟨c0, c1, c2, c3, c4, c5, c6, d0, d1, d2, d3, d4, d5, d6, _⟩ => ?qify0) ?_
   case qify0 => (go_simp; try first | rfl | (rw [if_pos (by omega)]) | (rw [if_neg (by omega)]) | (rw [if_neg (by simp; omega)]) | (split <;> first | (exfalso; omega) | rfl))
   refine tH 1 ?qifv1 hS (fun w1 ⟨c0, c1, c2, c3, c4, c5, c6, d0, d1, d2, d3, d4, d5, d6, _⟩ => ?qify1) ?_
   case qify1 => (go_simp; try first | rfl | (rw [if_pos (by omega)]) | (rw [if_neg (by omega)]) | (rw [if_neg (by simp; omega)]) | (split <;> first | (exfalso; omega) | rfl))
   refine tH 2 ?qifv2 hS (fun w1 ⟨c0, c1, c2, c3, c4, c5, c6, d0, d1, d2, d3, d4, d5, d6, _⟩ => ?qify2) ?_
   case qify2 => (go_simp; try first | rfl | (rw [if_pos (by omega)]) | (rw [if_neg (by omega)]) | (rw [if_neg (by simp; omega)]) | (split <;> first | (exfalso; omega) | rfl))
   refine tH 3 ?qifv3 hS (fun w1 ⟨c0, c1, c2, c3, c4, c5, c6, d0, d1, d2, d3, d4, d5, d6, _⟩ => ?qify3) ?_
   case qify3 => (go_simp; try first | rfl | (rw [if_pos (by omega)]) | (rw [if_neg (by omega)]) | (rw [if_neg (by simp; omega)]) | (split <;> first | (exfalso; omega) | rfl))
   refine tH 4 ?qifv4 hS (fun w1 ⟨c0, c1, c2, c3, c4, c5, c6, d0, d1, d2, d3, d4, d5, d6, _⟩ => ?qify4) ?_
   case qify4 => (go_simp; try first | rfl | (rw [if_pos (by omega)]) | (rw [if_neg (by omega)]) | (rw [if_neg (by simp; omega)]) | (split <;> first | (exfalso; omega) | rfl))
   refine tH 5 ?qifv5 hS (fun w1 ⟨c0, c1, c2, c3, c4, c5, c6, d0, d1, d2, d3, d4, d5, d6, _⟩ => ?qify5) ?_
   case qify5 => (go_simp; try first | rfl | (rw [if_pos (by omega)]) | (rw [if_neg (by omega)]) | (rw [if_neg (by simp; omega)]) | (split <;> first | (exfalso; omega) | rfl))
   refine tH 6 ?qifv6 hS (fun w1 ⟨c0, c1, c2, c3, c4, c5, c6, d0, d1, d2, d3, d4, d5, d6, _⟩ => ?qify6) ?_
   case qify6 => (go_simp; try first | rfl | (rw [if_pos (by omega)]) | (rw [if_neg (by omega)]) | (rw [if_neg (by simp; omega)]) | (split <;> first | (exfalso; omega) | rfl))
   refine tH 7 ?qifv7 hS (fun w1 ⟨c0, c1, c2, c3, c4, c5, c6, d0, d1, d2, d3, d4, d5, d6, _⟩ => ?qify7) ?_
   case qify7 => (go_simp; try first | rfl | (rw [if_pos (by omega)]) | (rw [if_neg (by omega)]) | (rw [if_neg (by simp; omega)]) | (split <;> first | (exfalso; omega) | rfl))
   refine tH 8 ?qifv8 hS (fun w1 ⟨c0, c1, c2, c3, c4, c5, c6, d0, d1, d2, d3, d4, d5, d6, _⟩ => ?qify8) ?_
   case qify8 => (go_simp; try first | rfl | (rw [if_pos (by omega)]) | (rw [if_neg (by omega)]) | (rw [if_neg (by simp; omega)]) | (split <;> first | (exfalso; omega) | rfl))
   refine tH 9 ?qifv9 hS (fun w1 ⟨c0, c1, c2, c3, c4, c5, c6, d0, d1, d2, d3, d4, d5, d6, _⟩ => ?qify9) ?_
   case qify9 => (go_simp; try first | rfl | (rw [if_pos (by omega)]) | (rw [if_neg (by omega)]) | (rw [if_neg (by simp; omega)]) | (split <;> first | (exfalso; omega) | rfl))
   refine tH 10 ?qifv10 hS (fun w1 ⟨c0, c1, c2, c3, c4, c5, c6, d0, d1, d2, d3, d4, d5, d6, _⟩ => ?qify10) ?_
   case qify10 => (go_simp; try first | rfl | (rw [if_pos (by omega)]) | (rw [if_neg (by omega)]) | (rw [if_neg (by simp; omega)]) | (split <;> first | (exfalso; omega) | rfl))
   simp only [Act.put, List.setIfInBounds_toArray, List.set_cons_succ, List.set_cons_zero]
   refine doneH (by kernel_rfl) ?_
   clear hS
   gi_wp2_with fail
   exact ⟨⟨k + 1, hkt, by go_num, by rw [HNX.out, Bool.false_or, Bool.true_and], Bwd.out⟩, by simp [intOf]; omega⟩
 case neg =>
  have hz0 : ¬ ((0 : Int) < (i : Int)) := by omega
  gi_wp2_with fail
  refine drawnH (List.range 15) (fun _ => True) 15 rfl (by kernel_rfl) ?_
  intro w9 hw9
  have hS : True := trivial
  have HB10 : Hid (Below w4.heap.size w4 w9) := by subst hw9; exact HBW.out.drew
  clear hw9
  refine tH 0 ?qdv0 hS (fun w1 _ => ?qdy0) ?_
  case qdy0 => (go_simp; try first | rfl | (rw [if_pos (by omega)]) | (rw [if_neg (by omega)]) | (rw [if_neg (by simp; omega)]) | (split <;> first | (exfalso; omega) | rfl))
  refine tH 1 ?qdv1 hS (fun w1 _ => ?qdy1) ?_
  case qdy1 => (go_simp; try first | rfl | (rw [if_pos (by omega)]) | (rw [if_neg (by omega)]) | (rw [if_neg (by simp; omega)]) | (split <;> first | (exfalso; omega) | rfl))
  refine tH 2 ?qdv2 hS (fun w1 _ => ?qdy2) ?_
  case qdy2 => (go_simp; try first | rfl | (rw [if_pos (by omega)]) | (rw [if_neg (by omega)]) | (rw [if_neg (by simp; omega)]) | (split <;> first | (exfalso; omega) | rfl))
  simp only [Act.put, List.setIfInBounds_toArray, List.set_cons_succ, List.set_cons_zero]
  refine tU 3 hS ?_
  refine tU 4 hS ?_
  refine tU 5 hS ?_
  refine tU 6 hS ?_
  refine tU 7 hS ?_
  refine tU 8 hS ?_
  refine tU 9 hS ?_
  refine tU 10 hS ?_
  refine tU 11 hS ?_
  refine tU 12 hS ?_
  refine tU 13 hS ?_
  simp only [Act.put, List.setIfInBounds_toArray, List.set_cons_succ, List.set_cons_zero]
  refine tH 14 ?qev14 hS (fun w1 _ => ?qey14) ?_
  case qey14 => (go_simp; try first | rfl | (rw [if_pos (by omega)]) | (rw [if_neg (by omega)]) | (rw [if_neg (by simp; omega)]) | (split <;> first | (exfalso; omega) | rfl))
  simp only [Act.put, List.setIfInBounds_toArray, List.set_cons_succ, List.set_cons_zero]
  refine doneH (by kernel_rfl) ?_
  gi_wp2_with fail
  gi_loopw [5, 6] (fun v5 v6 W => ∃ k : Nat, k <= m /\ v6 = .int .i64 k /\ v5 = .bool ((L.take k).any (fun z : El w3 => (Rc.cmp z.1.2 x.1.2 == 0) && (z.1.2.ttl == x.1.2.ttl))) /\ Below w4.heap.size w4 W) (fun _ v6 _ => m - (intOf v6).toNat)
  case atStart => exact ⟨0, Nat.zero_le _, rfl, rfl, HB10.out⟩
  case round =>
  obtain ⟨k, hk, rfl, rfl, hbw⟩ := hrel
  have HBK := Lib.hid hbw
  clear hbw
  by_cases hkt : k < m
  case neg =>
   have hkz : ¬ ((k : Int) < (m : Int)) := by omega
   have hon : (L.take k).any (fun z : El w3 => (Rc.cmp z.1.2 x.1.2 == 0) && (z.1.2.ttl == x.1.2.ttl)) = true := by
    rw [List.take_of_length_le (by rw [HLM.out]; omega)]; exact HON.out
   rw [hon]
   clear hon
   gi_wp2_with fail
   go_roundw
   case rel => exact ⟨i + 1, hlt, by go_num, HBK.out⟩
   case measure => simp [intOf]; omega
  case pos =>
  have hkz : (k : Int) < (m : Int) := by omega
  have hka : k < L.length := by rw [HLM.out]; exact hkt
  obtain ⟨gs, sp0, sn0, sq0, sp1, sn1, sq1, sp2, sn2, sq2, sp3, sn3, sq3, sp4, sn4, sq4, hos, hrs, hcs⟩ := rd7 VL4.out k hka
  obtain ⟨s, hxs⟩ : ∃ x, L[k] = x := ⟨_, rfl⟩
  rw [hxs] at hrs hcs
  obtain ⟨ts, hts⟩ : ∃ t, s.1.2.ttl = t := ⟨_, rfl⟩
  obtain ⟨ys, hys⟩ : ∃ t, s.1.2.type = t := ⟨_, rfl⟩
  rw [hts, hys] at hrs hcs
  obtain ⟨ek, hek⟩ : ∃ q, gs.add (k * 7) = q := ⟨_, rfl⟩
  rw [hek] at hcs
  have HsC := Lib.hid hcs
  have HsR := Lib.hid hrs
  clear hcs hrs
  subst hos
  obtain ⟨bz, hbz⟩ : ∃ b, (Rc.cmp s.1.2 x.1.2 == 0) = b := ⟨_, rfl⟩
  have HSM : Hid (∀ W', Below w4.heap.size w4 W' -> Calls Tryz.prog 15 #[.agg #[.slice sp0 sn0 sq0, .int .u32 (ts : Int), .int .i64 ys, .slice sp1 sn1 sq1, .slice sp2 sn2 sq2, .slice sp3 sn3 sq3, .slice sp4 sn4 sq4], .agg #[.slice xp0 xn0 xq0, .int .u32 (tx : Int), .int .i64 yx, .slice xp1 xn1 xq1, .slice xp2 xn2 xq2, .slice xp3 xn3 xq3, .slice xp4 xn4 xq4]] W' (Gives (.bool bz) W')) := fun W' hW => by
   have h := recSame_any [.slice sp0 sn0 sq0, .int .u32 (ts : Int), .int .i64 ys, .slice sp1 sn1 sq1, .slice sp2 sn2 sq2, .slice sp3 sn3 sq3, .slice sp4 sn4 sq4] [.slice xp0 xn0 xq0, .int .u32 (tx : Int), .int .i64 yx, .slice xp1 xn1 xq1, .slice xp2 xn2 xq2, .slice xp3 xn3 xq3, .slice xp4 xn4 xq4] s.1.2 x.1.2 W' (HsR.out.below (below5 HB4.out hW)) (HxR.out.below (below5 HB4.out hW)) s.2.2 x.2.2
   rw [hbz] at h; exact h
  obtain ⟨bk, hbk⟩ : ∃ b, (L.take k).any (fun z : El w3 => (Rc.cmp z.1.2 x.1.2 == 0) && (z.1.2.ttl == x.1.2.ttl)) = b := ⟨_, rfl⟩
  obtain ⟨bq, hbq⟩ : ∃ b, ((ts : Int) == (tx : Int)) = b := ⟨_, rfl⟩
  have HNX : Hid ((L.take (k + 1)).any (fun z : El w3 => (Rc.cmp z.1.2 x.1.2 == 0) && (z.1.2.ttl == x.1.2.ttl)) = (bk || (bz && bq))) := by
   show _ = _
   rw [List.take_succ_eq_append_getElem hka, List.any_append, hbk, hxs]
   have hq : (s.1.2.ttl == x.1.2.ttl) = bq := by rw [<- hbq, hts, htx]; exact Bool.eq_iff_iff.2 (by simp; omega)
   simp [hbz, hq]
  have hle : bz = true -> ¬ ((ts : Int) < (tx : Int)) := fun h => by
   have := HLE.out s (by rw [<- hxs]; exact List.getElem_mem hka) (by rw [hbz]; exact h)
   rw [hts, htx] at this; omega
  have HCS : Hid (∀ W', Below w4.heap.size w4 W' -> (Cs [(ea, .slice xp0 xn0 xq0), (⟨ea.block, ea.off + 1, none⟩, .int .u32 (tx : Int)), (⟨ea.block, ea.off + 2, none⟩, .int .i64 yx), (⟨ea.block, ea.off + 3, none⟩, .slice xp1 xn1 xq1), (⟨ea.block, ea.off + 4, none⟩, .slice xp2 xn2 xq2), (⟨ea.block, ea.off + 5, none⟩, .slice xp3 xn3 xq3), (⟨ea.block, ea.off + 6, none⟩, .slice xp4 xn4 xq4), (ek, .slice sp0 sn0 sq0), (⟨ek.block, ek.off + 1, none⟩, .int .u32 (ts : Int)), (⟨ek.block, ek.off + 2, none⟩, .int .i64 ys), (⟨ek.block, ek.off + 3, none⟩, .slice sp1 sn1 sq1), (⟨ek.block, ek.off + 4, none⟩, .slice sp2 sn2 sq2), (⟨ek.block, ek.off + 5, none⟩, .slice sp3 sn3 sq3), (⟨ek.block, ek.off + 6, none⟩, .slice sp4 sn4 sq4)]) W') := fun W' hW => by
   obtain ⟨c0, c1, c2, c3, c4, c5, c6, _⟩ := HxC.out W' hW
   obtain ⟨d0, d1, d2, d3, d4, d5, d6, _⟩ := HsC.out W' hW
   exact ⟨c0, c1, c2, c3, c4, c5, c6, d0, d1, d2, d3, d4, d5, d6, trivial⟩
  rw [hbk]
  have HQ := Lib.hid hle
  clear hbk hbz hle hts hys hxs
  gi_wp2_with fail
  refine drawnH [3, 7] (Cs [(ea, .slice xp0 xn0 xq0), (⟨ea.block, ea.off + 1, none⟩, .int .u32 (tx : Int)), (⟨ea.block, ea.off + 2, none⟩, .int .i64 yx), (⟨ea.block, ea.off + 3, none⟩, .slice xp1 xn1 xq1), (⟨ea.block, ea.off + 4, none⟩, .slice xp2 xn2 xq2), (⟨ea.block, ea.off + 5, none⟩, .slice xp3 xn3 xq3), (⟨ea.block, ea.off + 6, none⟩, .slice xp4 xn4 xq4), (ek, .slice sp0 sn0 sq0), (⟨ek.block, ek.off + 1, none⟩, .int .u32 (ts : Int)), (⟨ek.block, ek.off + 2, none⟩, .int .i64 ys), (⟨ek.block, ek.off + 3, none⟩, .slice sp1 sn1 sq1), (⟨ek.block, ek.off + 4, none⟩, .slice sp2 sn2 sq2), (⟨ek.block, ek.off + 5, none⟩, .slice sp3 sn3 sq3), (⟨ek.block, ek.off + 6, none⟩, .slice sp4 sn4 sq4)]) 9 rfl (by kernel_rfl) ?_
  intro wa hwa
  have Bwa : Hid (Below w4.heap.size w4 wa) := by subst hwa; exact HBK.out.drew
  have hS : (Cs [(ea, .slice xp0 xn0 xq0), (⟨ea.block, ea.off + 1, none⟩, .int .u32 (tx : Int)), (⟨ea.block, ea.off + 2, none⟩, .int .i64 yx), (⟨ea.block, ea.off + 3, none⟩, .slice xp1 xn1 xq1), (⟨ea.block, ea.off + 4, none⟩, .slice xp2 xn2 xq2), (⟨ea.block, ea.off + 5, none⟩, .slice xp3 xn3 xq3), (⟨ea.block, ea.off + 6, none⟩, .slice xp4 xn4 xq4), (ek, .slice sp0 sn0 sq0), (⟨ek.block, ek.off + 1, none⟩, .int .u32 (ts : Int)), (⟨ek.block, ek.off + 2, none⟩, .int .i64 ys), (⟨ek.block, ek.off + 3, none⟩, .slice sp1 sn1 sq1), (⟨ek.block, ek.off + 4, none⟩, .slice sp2 sn2 sq2), (⟨ek.block, ek.off + 5, none⟩, .slice sp3 sn3 sq3), (⟨ek.block, ek.off + 6, none⟩, .slice sp4 sn4 sq4)]) wa := HCS.out wa Bwa.out
  clear hwa
  refine tP 0 ?qjav0 (fun w1 _ => ?qjay0) ?_
  case qjay0 => (go_simp; try first | rfl | (rw [if_pos (by omega)]) | (rw [if_neg (by omega)]) | (rw [if_neg (by simp; omega)]) | (split <;> first | (exfalso; omega) | rfl))
  refine tP 1 ?qjav1 (fun w1 _ => ?qjay1) ?_
  case qjay1 => (go_simp; try first | rfl | (rw [if_pos (by omega)]) | (rw [if_neg (by omega)]) | (rw [if_neg (by simp; omega)]) | (split <;> first | (exfalso; omega) | rfl))
  refine tP 2 ?qjav2 (fun w1 _ => ?qjay2) ?_
  case qjay2 => (go_simp; try first | rfl | (rw [if_pos (by omega)]) | (rw [if_neg (by omega)]) | (rw [if_neg (by simp; omega)]) | (split <;> first | (exfalso; omega) | rfl))
  refine tP 4 ?qjav4 (fun w1 _ => ?qjay4) ?_
  case qjay4 => (go_simp; try first | rfl | (rw [if_pos (by omega)]) | (rw [if_neg (by omega)]) | (rw [if_neg (by simp; omega)]) | (split <;> first | (exfalso; omega) | rfl))
  refine tP 5 ?qjav5 (fun w1 _ => ?qjay5) ?_
  case qjay5 => (go_simp; try first | rfl | (rw [if_pos (by omega)]) | (rw [if_neg (by omega)]) | (rw [if_neg (by simp; omega)]) | (split <;> first | (exfalso; omega) | rfl))
  refine tP 6 ?qjav6 (fun w1 _ => ?qjay6) ?_
  case qjay6 => (go_simp; try first | rfl | (rw [if_pos (by omega)]) | (rw [if_neg (by omega)]) | (rw [if_neg (by simp; omega)]) | (split <;> first | (exfalso; omega) | rfl))
  simp only [Act.put, List.setIfInBounds_toArray, List.set_cons_succ, List.set_cons_zero]
  refine tH 3 ?qjav3 hS (fun w1 ⟨c0, c1, c2, c3, c4, c5, c6, d0, d1, d2, d3, d4, d5, d6, _⟩ => ?qjay3) ?_
  case qjay3 => (go_simp; try first | rfl | (rw [if_pos (by omega)]) | (rw [if_neg (by omega)]) | (rw [if_neg (by simp; omega)]) | (split <;> first | (exfalso; omega) | rfl))
  refine tH 7 ?qjav7 hS (fun w1 ⟨c0, c1, c2, c3, c4, c5, c6, d0, d1, d2, d3, d4, d5, d6, _⟩ => ?qjay7) ?_
  case qjay7 => (go_simp; try first | rfl | (rw [if_pos (by omega)]) | (rw [if_neg (by omega)]) | (rw [if_neg (by simp; omega)]) | (split <;> first | (exfalso; omega) | rfl))
  simp only [Act.put, List.setIfInBounds_toArray, List.set_cons_succ, List.set_cons_zero]
  refine oneH 8 (by rfl) (by kernel_rfl) (fun K hK => ?_)
  gi_wp2_with (gi_at_call 15; refine (callsIn_wide.2 (HSM.out wa Bwa.out)).mono ?_; rintro e8 wb ⟨rfl, b8⟩)
  have HBB := Lib.hid (below5 Bwa.out b8)
  replace hS := HCS.out wb HBB.out
  refine hK _ _ (fun h => absurd h (by decide)) ?_
  clear hK K b8 hS HSM
  refine doneH (by kernel_rfl) ?_
  cases bz with
  | false =>
   gi_wp2_with fail
   exact ⟨⟨k + 1, hkt, by go_num, by rw [HNX.out, Bool.false_and, Bool.or_false], HBB.out⟩, by simp [intOf]; omega⟩
  | true =>
  have hq17 : ¬ ((ts : Int) < (tx : Int)) := by have := HQ.out rfl; omega
  cases bk with
  | true =>
   gi_wp2_with fail
   refine drawnH (List.range 14) (Cs [(ea, .slice xp0 xn0 xq0), (⟨ea.block, ea.off + 1, none⟩, .int .u32 (tx : Int)), (⟨ea.block, ea.off + 2, none⟩, .int .i64 yx), (⟨ea.block, ea.off + 3, none⟩, .slice xp1 xn1 xq1), (⟨ea.block, ea.off + 4, none⟩, .slice xp2 xn2 xq2), (⟨ea.block, ea.off + 5, none⟩, .slice xp3 xn3 xq3), (⟨ea.block, ea.off + 6, none⟩, .slice xp4 xn4 xq4), (ek, .slice sp0 sn0 sq0), (⟨ek.block, ek.off + 1, none⟩, .int .u32 (ts : Int)), (⟨ek.block, ek.off + 2, none⟩, .int .i64 ys), (⟨ek.block, ek.off + 3, none⟩, .slice sp1 sn1 sq1), (⟨ek.block, ek.off + 4, none⟩, .slice sp2 sn2 sq2), (⟨ek.block, ek.off + 5, none⟩, .slice sp3 sn3 sq3), (⟨ek.block, ek.off + 6, none⟩, .slice sp4 sn4 sq4)]) 15 rfl (by kernel_rfl) ?_
   intro wc hwc
   have Bwc : Hid (Below w4.heap.size w4 wc) := by subst hwc; exact HBB.out.drew
   have hS : (Cs [(ea, .slice xp0 xn0 xq0), (⟨ea.block, ea.off + 1, none⟩, .int .u32 (tx : Int)), (⟨ea.block, ea.off + 2, none⟩, .int .i64 yx), (⟨ea.block, ea.off + 3, none⟩, .slice xp1 xn1 xq1), (⟨ea.block, ea.off + 4, none⟩, .slice xp2 xn2 xq2), (⟨ea.block, ea.off + 5, none⟩, .slice xp3 xn3 xq3), (⟨ea.block, ea.off + 6, none⟩, .slice xp4 xn4 xq4), (ek, .slice sp0 sn0 sq0), (⟨ek.block, ek.off + 1, none⟩, .int .u32 (ts : Int)), (⟨ek.block, ek.off + 2, none⟩, .int .i64 ys), (⟨ek.block, ek.off + 3, none⟩, .slice sp1 sn1 sq1), (⟨ek.block, ek.off + 4, none⟩, .slice sp2 sn2 sq2), (⟨ek.block, ek.off + 5, none⟩, .slice sp3 sn3 sq3), (⟨ek.block, ek.off + 6, none⟩, .slice sp4 sn4 sq4)]) wc := HCS.out wc Bwc.out
   clear hwc
   refine tH 0 ?qjbv0 hS (fun w1 ⟨c0, c1, c2, c3, c4, c5, c6, d0, d1, d2, d3, d4, d5, d6, _⟩ => ?qjby0) ?_
   case qjby0 => (go_simp; try first | rfl | (rw [if_pos (by omega)]) | (rw [if_neg (by omega)]) | (rw [if_neg (by simp; omega)]) | (split <;> first | (exfalso; omega) | rfl))
   refine tH 1 ?qjbv1 hS (fun w1 ⟨c0, c1, c2, c3, c4, c5, c6, d0, d1, d2, d3, d4, d5, d6, _⟩ => ?qjby1) ?_
   case qjby1 => (go_simp; try first | rfl | (rw [if_pos (by omega)]) | (rw [if_neg (by omega)]) | (rw [if_neg (by simp; omega)]) | (split <;> first | (exfalso; omega) | rfl))
   simp only [Act.put, List.setIfInBounds_toArray, List.set_cons_succ, List.set_cons_zero]
   refine tU 2 hS ?_
   refine tU 3 hS ?_
   refine tU 4 hS ?_
   refine tU 5 hS ?_
   refine tU 6 hS ?_
   refine tU 7 hS ?_
   refine tU 8 hS ?_
   refine tU 9 hS ?_
   refine tU 10 hS ?_
   refine tU 11 hS ?_
   refine tU 12 hS ?_
   simp only [Act.put, List.setIfInBounds_toArray, List.set_cons_succ, List.set_cons_zero]
   refine tH 13 ?qjcv13 hS (fun w1 ⟨c0, c1, c2, c3, c4, c5, c6, d0, d1, d2, d3, d4, d5, d6, _⟩ => ?qjcy13) ?_
   case qjcy13 => (go_simp; try first | rfl | (rw [if_pos (by omega)]) | (rw [if_neg (by omega)]) | (rw [if_neg (by simp; omega)]) | (split <;> first | (exfalso; omega) | rfl))
   simp only [Act.put, List.setIfInBounds_toArray, List.set_cons_succ, List.set_cons_zero]
   refine oneH 14 (by rfl) (by kernel_rfl) (fun K hK => ?_)
   gi_wp2_with fail
   refine hK _ _ (fun h => absurd h (by decide)) ?_
   clear hK K hS
   refine doneH (by kernel_rfl) ?_
   gi_wp2_with fail
   refine drawnH (List.range 11) (Cs [(ea, .slice xp0 xn0 xq0), (⟨ea.block, ea.off + 1, none⟩, .int .u32 (tx : Int)), (⟨ea.block, ea.off + 2, none⟩, .int .i64 yx), (⟨ea.block, ea.off + 3, none⟩, .slice xp1 xn1 xq1), (⟨ea.block, ea.off + 4, none⟩, .slice xp2 xn2 xq2), (⟨ea.block, ea.off + 5, none⟩, .slice xp3 xn3 xq3), (⟨ea.block, ea.off + 6, none⟩, .slice xp4 xn4 xq4), (ek, .slice sp0 sn0 sq0), (⟨ek.block, ek.off + 1, none⟩, .int .u32 (ts : Int)), (⟨ek.block, ek.off + 2, none⟩, .int .i64 ys), (⟨ek.block, ek.off + 3, none⟩, .slice sp1 sn1 sq1), (⟨ek.block, ek.off + 4, none⟩, .slice sp2 sn2 sq2), (⟨ek.block, ek.off + 5, none⟩, .slice sp3 sn3 sq3), (⟨ek.block, ek.off + 6, none⟩, .slice sp4 sn4 sq4)]) 11 rfl (by kernel_rfl) ?_
   intro wd hwd
   have Bwd : Hid (Below w4.heap.size w4 wd) := by subst hwd; exact Bwc.out.drew
   have hS : (Cs [(ea, .slice xp0 xn0 xq0), (⟨ea.block, ea.off + 1, none⟩, .int .u32 (tx : Int)), (⟨ea.block, ea.off + 2, none⟩, .int .i64 yx), (⟨ea.block, ea.off + 3, none⟩, .slice xp1 xn1 xq1), (⟨ea.block, ea.off + 4, none⟩, .slice xp2 xn2 xq2), (⟨ea.block, ea.off + 5, none⟩, .slice xp3 xn3 xq3), (⟨ea.block, ea.off + 6, none⟩, .slice xp4 xn4 xq4), (ek, .slice sp0 sn0 sq0), (⟨ek.block, ek.off + 1, none⟩, .int .u32 (ts : Int)), (⟨ek.block, ek.off + 2, none⟩, .int .i64 ys), (⟨ek.block, ek.off + 3, none⟩, .slice sp1 sn1 sq1), (⟨ek.block, ek.off + 4, none⟩, .slice sp2 sn2 sq2), (⟨ek.block, ek.off + 5, none⟩, .slice sp3 sn3 sq3), (⟨ek.block, ek.off + 6, none⟩, .slice sp4 sn4 sq4)]) wd := HCS.out wd Bwd.out
   clear hwd
   refine tH 0 ?qjdv0 hS (fun w1 ⟨c0, c1, c2, c3, c4, c5, c6, d0, d1, d2, d3, d4, d5, d6, _⟩ => ?qjdy0) ?_
   case qjdy0 => (go_simp; try first | rfl | (rw [if_pos (by omega)]) | (rw [if_neg (by omega)]) | (rw [if_neg (by simp; omega)]) | (split <;> first | (exfalso; omega) | rfl))
   refine tH 1 ?qjdv1 hS (fun w1 ⟨c0, c1, c2, c3, c4, c5, c6, d0, d1, d2, d3, d4, d5, d6, _⟩ => ?qjdy1) ?_
   case qjdy1 => (go_simp; try first | rfl | (rw [if_pos (by omega)]) | (rw [if_neg (by omega)]) | (rw [if_neg (by simp; omega)]) | (split <;> first | (exfalso; omega) | rfl))
   refine tH 2 ?qjdv2 hS (fun w1 ⟨c0, c1, c2, c3, c4, c5, c6, d0, d1, d2, d3, d4, d5, d6, _⟩ => ?qjdy2) ?_
   case qjdy2 => (go_simp; try first | rfl | (rw [if_pos (by omega)]) | (rw [if_neg (by omega)]) | (rw [if_neg (by simp; omega)]) | (split <;> first | (exfalso; omega) | rfl))
   refine tH 3 ?qjdv3 hS (fun w1 ⟨c0, c1, c2, c3, c4, c5, c6, d0, d1, d2, d3, d4, d5, d6, _⟩ => ?qjdy3) ?_
   case qjdy3 => (go_simp; try first | rfl | (rw [if_pos (by omega)]) | (rw [if_neg (by omega)]) | (rw [if_neg (by simp; omega)]) | (split <;> first | (exfalso; omega) | rfl))
   refine tH 4 ?qjdv4 hS (fun w1 ⟨c0, c1, c2, c3, c4, c5, c6, d0, d1, d2, d3, d4, d5, d6, _⟩ => ?qjdy4) ?_
   case qjdy4 => (go_simp; try first | rfl | (rw [if_pos (by omega)]) | (rw [if_neg (by omega)]) | (rw [if_neg (by simp; omega)]) | (split <;> first | (exfalso; omega) | rfl))
   refine tH 5 ?qjdv5 hS (fun w1 ⟨c0, c1, c2, c3, c4, c5, c6, d0, d1, d2, d3, d4, d5, d6, _⟩ => ?qjdy5) ?_
   case qjdy5 => (go_simp; try first | rfl | (rw [if_pos (by omega)]) | (rw [if_neg (by omega)]) | (rw [if_neg (by simp; omega)]) | (split <;> first | (exfalso; omega) | rfl))
   refine tH 6 ?qjdv6 hS (fun w1 ⟨c0, c1, c2, c3, c4, c5, c6, d0, d1, d2, d3, d4, d5, d6, _⟩ => ?qjdy6) ?_
   case qjdy6 => (go_simp; try first | rfl | (rw [if_pos (by omega)]) | (rw [if_neg (by omega)]) | (rw [if_neg (by simp; omega)]) | (split <;> first | (exfalso; omega) | rfl))
   refine tH 7 ?qjdv7 hS (fun w1 ⟨c0, c1, c2, c3, c4, c5, c6, d0, d1, d2, d3, d4, d5, d6, _⟩ => ?qjdy7) ?_
   case qjdy7 => (go_simp; try first | rfl | (rw [if_pos (by omega)]) | (rw [if_neg (by omega)]) | (rw [if_neg (by simp; omega)]) | (split <;> first | (exfalso; omega) | rfl))
   refine tH 8 ?qjdv8 hS (fun w1 ⟨c0, c1, c2, c3, c4, c5, c6, d0, d1, d2, d3, d4, d5, d6, _⟩ => ?qjdy8) ?_
   case qjdy8 => (go_simp; try first | rfl | (rw [if_pos (by omega)]) | (rw [if_neg (by omega)]) | (rw [if_neg (by simp; omega)]) | (split <;> first | (exfalso; omega) | rfl))
   refine tH 9 ?qjdv9 hS (fun w1 ⟨c0, c1, c2, c3, c4, c5, c6, d0, d1, d2, d3, d4, d5, d6, _⟩ => ?qjdy9) ?_
   case qjdy9 => (go_simp; try first | rfl | (rw [if_pos (by omega)]) | (rw [if_neg (by omega)]) | (rw [if_neg (by simp; omega)]) | (split <;> first | (exfalso; omega) | rfl))
   refine tH 10 ?qjdv10 hS (fun w1 ⟨c0, c1, c2, c3, c4, c5, c6, d0, d1, d2, d3, d4, d5, d6, _⟩ => ?qjdy10) ?_
   case qjdy10 => (go_simp; try first | rfl | (rw [if_pos (by omega)]) | (rw [if_neg (by omega)]) | (rw [if_neg (by simp; omega)]) | (split <;> first | (exfalso; omega) | rfl))
   simp only [Act.put, List.setIfInBounds_toArray, List.set_cons_succ, List.set_cons_zero]
   refine doneH (by kernel_rfl) ?_
   clear hS
   gi_wp2_with fail
   exact ⟨⟨k + 1, hkt, by go_num, by rw [HNX.out, Bool.true_or], Bwd.out⟩, by simp [intOf]; omega⟩
  | false =>
   gi_wp2_with fail
   refine drawnH (List.range 14) (Cs [(ea, .slice xp0 xn0 xq0), (⟨ea.block, ea.off + 1, none⟩, .int .u32 (tx : Int)), (⟨ea.block, ea.off + 2, none⟩, .int .i64 yx), (⟨ea.block, ea.off + 3, none⟩, .slice xp1 xn1 xq1), (⟨ea.block, ea.off + 4, none⟩, .slice xp2 xn2 xq2), (⟨ea.block, ea.off + 5, none⟩, .slice xp3 xn3 xq3), (⟨ea.block, ea.off + 6, none⟩, .slice xp4 xn4 xq4), (ek, .slice sp0 sn0 sq0), (⟨ek.block, ek.off + 1, none⟩, .int .u32 (ts : Int)), (⟨ek.block, ek.off + 2, none⟩, .int .i64 ys), (⟨ek.block, ek.off + 3, none⟩, .slice sp1 sn1 sq1), (⟨ek.block, ek.off + 4, none⟩, .slice sp2 sn2 sq2), (⟨ek.block, ek.off + 5, none⟩, .slice sp3 sn3 sq3), (⟨ek.block, ek.off + 6, none⟩, .slice sp4 sn4 sq4)]) 15 rfl (by kernel_rfl) ?_
   intro wc hwc
   have Bwc : Hid (Below w4.heap.size w4 wc) := by subst hwc; exact HBB.out.drew
   have hS : (Cs [(ea, .slice xp0 xn0 xq0), (⟨ea.block, ea.off + 1, none⟩, .int .u32 (tx : Int)), (⟨ea.block, ea.off + 2, none⟩, .int .i64 yx), (⟨ea.block, ea.off + 3, none⟩, .slice xp1 xn1 xq1), (⟨ea.block, ea.off + 4, none⟩, .slice xp2 xn2 xq2), (⟨ea.block, ea.off + 5, none⟩, .slice xp3 xn3 xq3), (⟨ea.block, ea.off + 6, none⟩, .slice xp4 xn4 xq4), (ek, .slice sp0 sn0 sq0), (⟨ek.block, ek.off + 1, none⟩, .int .u32 (ts : Int)), (⟨ek.block, ek.off + 2, none⟩, .int .i64 ys), (⟨ek.block, ek.off + 3, none⟩, .slice sp1 sn1 sq1), (⟨ek.block, ek.off + 4, none⟩, .slice sp2 sn2 sq2), (⟨ek.block, ek.off + 5, none⟩, .slice sp3 sn3 sq3), (⟨ek.block, ek.off + 6, none⟩, .slice sp4 sn4 sq4)]) wc := HCS.out wc Bwc.out
   clear hwc
   refine tH 0 ?qjev0 hS (fun w1 ⟨c0, c1, c2, c3, c4, c5, c6, d0, d1, d2, d3, d4, d5, d6, _⟩ => ?qjey0) ?_
   case qjey0 => (go_simp; try first | rfl | (rw [if_pos (by omega)]) | (rw [if_neg (by omega)]) | (rw [if_neg (by simp; omega)]) | (split <;> first | (exfalso; omega) | rfl))
   refine tH 1 ?qjev1 hS (fun w1 ⟨c0, c1, c2, c3, c4, c5, c6, d0, d1, d2, d3, d4, d5, d6, _⟩ => ?qjey1) ?_
   case qjey1 => (go_simp; try first | rfl | (rw [if_pos (by omega)]) | (rw [if_neg (by omega)]) | (rw [if_neg (by simp; omega)]) | (split <;> first | (exfalso; omega) | rfl))
   refine tH 2 ?qjev2 hS (fun w1 ⟨c0, c1, c2, c3, c4, c5, c6, d0, d1, d2, d3, d4, d5, d6, _⟩ => ?qjey2) ?_
   case qjey2 => (go_simp; try first | rfl | (rw [if_pos (by omega)]) | (rw [if_neg (by omega)]) | (rw [if_neg (by simp; omega)]) | (split <;> first | (exfalso; omega) | rfl))
   refine tH 3 ?qjev3 hS (fun w1 ⟨c0, c1, c2, c3, c4, c5, c6, d0, d1, d2, d3, d4, d5, d6, _⟩ => ?qjey3) ?_
   case qjey3 => (go_simp; try first | rfl | (rw [if_pos (by omega)]) | (rw [if_neg (by omega)]) | (rw [if_neg (by simp; omega)]) | (split <;> first | (exfalso; omega) | rfl))
   refine tH 4 ?qjev4 hS (fun w1 ⟨c0, c1, c2, c3, c4, c5, c6, d0, d1, d2, d3, d4, d5, d6, _⟩ => ?qjey4) ?_
   case qjey4 => (go_simp; try first | rfl | (rw [if_pos (by omega)]) | (rw [if_neg (by omega)]) | (rw [if_neg (by simp; omega)]) | (split <;> first | (exfalso; omega) | rfl))
   refine tH 5 ?qjev5 hS (fun w1 ⟨c0, c1, c2, c3, c4, c5, c6, d0, d1, d2, d3, d4, d5, d6, _⟩ => ?qjey5) ?_
   case qjey5 => (go_simp; try first | rfl | (rw [if_pos (by omega)]) | (rw [if_neg (by omega)]) | (rw [if_neg (by simp; omega)]) | (split <;> first | (exfalso; omega) | rfl))
   refine tH 6 ?qjev6 hS (fun w1 ⟨c0, c1, c2, c3, c4, c5, c6, d0, d1, d2, d3, d4, d5, d6, _⟩ => ?qjey6) ?_
   case qjey6 => (go_simp; try first | rfl | (rw [if_pos (by omega)]) | (rw [if_neg (by omega)]) | (rw [if_neg (by simp; omega)]) | (split <;> first | (exfalso; omega) | rfl))
   refine tH 7 ?qjev7 hS (fun w1 ⟨c0, c1, c2, c3, c4, c5, c6, d0, d1, d2, d3, d4, d5, d6, _⟩ => ?qjey7) ?_
   case qjey7 => (go_simp; try first | rfl | (rw [if_pos (by omega)]) | (rw [if_neg (by omega)]) | (rw [if_neg (by simp; omega)]) | (split <;> first | (exfalso; omega) | rfl))
   refine tH 8 ?qjev8 hS (fun w1 ⟨c0, c1, c2, c3, c4, c5, c6, d0, d1, d2, d3, d4, d5, d6, _⟩ => ?qjey8) ?_
   case qjey8 => (go_simp; try first | rfl | (rw [if_pos (by omega)]) | (rw [if_neg (by omega)]) | (rw [if_neg (by simp; omega)]) | (split <;> first | (exfalso; omega) | rfl))
   refine tH 9 ?qjev9 hS (fun w1 ⟨c0, c1, c2, c3, c4, c5, c6, d0, d1, d2, d3, d4, d5, d6, _⟩ => ?qjey9) ?_
   case qjey9 => (go_simp; try first | rfl | (rw [if_pos (by omega)]) | (rw [if_neg (by omega)]) | (rw [if_neg (by simp; omega)]) | (split <;> first | (exfalso; omega) | rfl))
   refine tH 10 ?qjev10 hS (fun w1 ⟨c0, c1, c2, c3, c4, c5, c6, d0, d1, d2, d3, d4, d5, d6, _⟩ => ?qjey10) ?_
   case qjey10 => (go_simp; try first | rfl | (rw [if_pos (by omega)]) | (rw [if_neg (by omega)]) | (rw [if_neg (by simp; omega)]) | (split <;> first | (exfalso; omega) | rfl))
   refine tH 11 ?qjev11 hS (fun w1 ⟨c0, c1, c2, c3, c4, c5, c6, d0, d1, d2, d3, d4, d5, d6, _⟩ => ?qjey11) ?_
   case qjey11 => (go_simp; try first | rfl | (rw [if_pos (by omega)]) | (rw [if_neg (by omega)]) | (rw [if_neg (by simp; omega)]) | (split <;> first | (exfalso; omega) | rfl))
   refine tH 12 ?qjev12 hS (fun w1 ⟨c0, c1, c2, c3, c4, c5, c6, d0, d1, d2, d3, d4, d5, d6, _⟩ => ?qjey12) ?_
   case qjey12 => (go_simp; try first | rfl | (rw [if_pos (by omega)]) | (rw [if_neg (by omega)]) | (rw [if_neg (by simp; omega)]) | (split <;> first | (exfalso; omega) | rfl))
   refine tH 13 ?qjev13 hS (fun w1 ⟨c0, c1, c2, c3, c4, c5, c6, d0, d1, d2, d3, d4, d5, d6, _⟩ => ?qjey13) ?_
   case qjey13 => (go_simp; try first | rfl | (rw [if_pos (by omega)]) | (rw [if_neg (by omega)]) | (rw [if_neg (by simp; omega)]) | (split <;> first | (exfalso; omega) | rfl))
   simp only [Act.put, List.setIfInBounds_toArray, List.set_cons_succ, List.set_cons_zero]
   refine oneH 14 (by rfl) (by kernel_rfl) (fun K hK => ?_)
   gi_wp2_with fail
   refine hK _ _ (fun h => absurd h (by decide)) ?_
   clear hK K hS
   refine doneH (by kernel_rfl) ?_
   gi_wp2_with fail
   refine drawnH (List.range 11) (Cs [(ea, .slice xp0 xn0 xq0), (⟨ea.block, ea.off + 1, none⟩, .int .u32 (tx : Int)), (⟨ea.block, ea.off + 2, none⟩, .int .i64 yx), (⟨ea.block, ea.off + 3, none⟩, .slice xp1 xn1 xq1), (⟨ea.block, ea.off + 4, none⟩, .slice xp2 xn2 xq2), (⟨ea.block, ea.off + 5, none⟩, .slice xp3 xn3 xq3), (⟨ea.block, ea.off + 6, none⟩, .slice xp4 xn4 xq4), (ek, .slice sp0 sn0 sq0), (⟨ek.block, ek.off + 1, none⟩, .int .u32 (ts : Int)), (⟨ek.block, ek.off + 2, none⟩, .int .i64 ys), (⟨ek.block, ek.off + 3, none⟩, .slice sp1 sn1 sq1), (⟨ek.block, ek.off + 4, none⟩, .slice sp2 sn2 sq2), (⟨ek.block, ek.off + 5, none⟩, .slice sp3 sn3 sq3), (⟨ek.block, ek.off + 6, none⟩, .slice sp4 sn4 sq4)]) 11 rfl (by kernel_rfl) ?_
   intro wd hwd
   have Bwd : Hid (Below w4.heap.size w4 wd) := by subst hwd; exact Bwc.out.drew
   have hS : (Cs [(ea, .slice xp0 xn0 xq0), (⟨ea.block, ea.off + 1, none⟩, .int .u32 (tx : Int)), (⟨ea.block, ea.off + 2, none⟩, .int .i64 yx), (⟨ea.block, ea.off + 3, none⟩, .slice xp1 xn1 xq1), (⟨ea.block, ea.off + 4, none⟩, .slice xp2 xn2 xq2), (⟨ea.block, ea.off + 5, none⟩, .slice xp3 xn3 xq3), (⟨ea.block, ea.off + 6, none⟩, .slice xp4 xn4 xq4), (ek, .slice sp0 sn0 sq0), (⟨ek.block, ek.off + 1, none⟩, .int .u32 (ts : Int)), (⟨ek.block, ek.off + 2, none⟩, .int .i64 ys), (⟨ek.block, ek.off + 3, none⟩, .slice sp1 sn1 sq1), (⟨ek.block, ek.off + 4, none⟩, .slice sp2 sn2 sq2), (⟨ek.block, ek.off + 5, none⟩, .slice sp3 sn3 sq3), (⟨ek.block, ek.off + 6, none⟩, .slice sp4 sn4 sq4)]) wd := HCS.out wd Bwd.out
   clear hwd
   refine tH 0 ?qjfv0 hS (fun w1 ⟨c0, c1, c2, c3, c4, c5, c6, d0, d1, d2, d3, d4, d5, d6, _⟩ => ?qjfy0) ?_
   case qjfy0 => (go_simp; try first | rfl | (rw [if_pos (by omega)]) | (rw [if_neg (by omega)]) | (rw [if_neg (by simp; omega)]) | (split <;> first | (exfalso; omega) | rfl))
   refine tH 1 ?qjfv1 hS (fun w1 ⟨c0, c1, c2, c3, c4, c5, c6, d0, d1, d2, d3, d4, d5, d6, _⟩ => ?qjfy1) ?_
   case qjfy1 => (go_simp; try first | rfl | (rw [if_pos (by omega)]) | (rw [if_neg (by omega)]) | (rw [if_neg (by simp; omega)]) | (split <;> first | (exfalso; omega) | rfl))
   refine tH 2 ?qjfv2 hS (fun w1 ⟨c0, c1, c2, c3, c4, c5, c6, d0, d1, d2, d3, d4, d5, d6, _⟩ => ?qjfy2) ?_
   case qjfy2 => (go_simp; try first | rfl | (rw [if_pos (by omega)]) | (rw [if_neg (by omega)]) | (rw [if_neg (by simp; omega)]) | (split <;> first | (exfalso; omega) | rfl))
   refine tH 3 ?qjfv3 hS (fun w1 ⟨c0, c1, c2, c3, c4, c5, c6, d0, d1, d2, d3, d4, d5, d6, _⟩ => ?qjfy3) ?_
   case qjfy3 => (go_simp; try first | rfl | (rw [if_pos (by omega)]) | (rw [if_neg (by omega)]) | (rw [if_neg (by simp; omega)]) | (split <;> first | (exfalso; omega) | rfl))
   refine tH 4 ?qjfv4 hS (fun w1 ⟨c0, c1, c2, c3, c4, c5, c6, d0, d1, d2, d3, d4, d5, d6, _⟩ => ?qjfy4) ?_
   case qjfy4 => (go_simp; try first | rfl | (rw [if_pos (by omega)]) | (rw [if_neg (by omega)]) | (rw [if_neg (by simp; omega)]) | (split <;> first | (exfalso; omega) | rfl))
   refine tH 5 ?qjfv5 hS (fun w1 ⟨c0, c1, c2, c3, c4, c5, c6, d0, d1, d2, d3, d4, d5, d6, _⟩ => ?qjfy5) ?_
   case qjfy5 => (go_simp; try first | rfl | (rw [if_pos (by omega)]) | (rw [if_neg (by omega)]) | (rw [if_neg (by simp; omega)]) | (split <;> first | (exfalso; omega) | rfl))
   refine tH 6 ?qjfv6 hS (fun w1 ⟨c0, c1, c2, c3, c4, c5, c6, d0, d1, d2, d3, d4, d5, d6, _⟩ => ?qjfy6) ?_
   case qjfy6 => (go_simp; try first | rfl | (rw [if_pos (by omega)]) | (rw [if_neg (by omega)]) | (rw [if_neg (by simp; omega)]) | (split <;> first | (exfalso; omega) | rfl))
   refine tH 7 ?qjfv7 hS (fun w1 ⟨c0, c1, c2, c3, c4, c5, c6, d0, d1, d2, d3, d4, d5, d6, _⟩ => ?qjfy7) ?_
   case qjfy7 => (go_simp; try first | rfl | (rw [if_pos (by omega)]) | (rw [if_neg (by omega)]) | (rw [if_neg (by simp; omega)]) | (split <;> first | (exfalso; omega) | rfl))
   refine tH 8 ?qjfv8 hS (fun w1 ⟨c0, c1, c2, c3, c4, c5, c6, d0, d1, d2, d3, d4, d5, d6, _⟩ => ?qjfy8) ?_
   case qjfy8 => (go_simp; try first | rfl | (rw [if_pos (by omega)]) | (rw [if_neg (by omega)]) | (rw [if_neg (by simp; omega)]) | (split <;> first | (exfalso; omega) | rfl))
   refine tH 9 ?qjfv9 hS (fun w1 ⟨c0, c1, c2, c3, c4, c5, c6, d0, d1, d2, d3, d4, d5, d6, _⟩ => ?qjfy9) ?_
   case qjfy9 => (go_simp; try first | rfl | (rw [if_pos (by omega)]) | (rw [if_neg (by omega)]) | (rw [if_neg (by simp; omega)]) | (split <;> first | (exfalso; omega) | rfl))
   refine tH 10 ?qjfv10 hS (fun w1 ⟨c0, c1, c2, c3, c4, c5, c6, d0, d1, d2, d3, d4, d5, d6, _⟩ => ?qjfy10) ?_
   case qjfy10 => (go_simp; try first | rfl | (rw [if_pos (by omega)]) | (rw [if_neg (by omega)]) | (rw [if_neg (by simp; omega)]) | (split <;> first | (exfalso; omega) | rfl))
   simp only [Act.put, List.setIfInBounds_toArray, List.set_cons_succ, List.set_cons_zero]
   refine doneH (by kernel_rfl) ?_
   clear hS
   gi_wp2_with fail
   exact ⟨⟨k + 1, hkt, by go_num, by rw [HNX.out, Bool.false_or, Bool.true_and], Bwd.out⟩, by simp [intOf]; omega⟩
end Go.Proofs.YtbgbahllhjelgaaGreatDoor
