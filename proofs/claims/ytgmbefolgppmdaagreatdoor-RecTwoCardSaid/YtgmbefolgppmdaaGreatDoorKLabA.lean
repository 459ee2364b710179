/- label: Escape, Text, Check, Fold. -/
import Derived.Test.YtgmbefolgppmdaaGreatDoorKRf
import Derived.Test.YtgmbefolgppmdaaGreatDoorKLabSpec
import Derived.Deep.QuietTactic
import Derived.BigQuiet
section
namespace Go.Proofs.YtgmbefolgppmdaaGreatDoor
open Go.RowKit Go.Shelf
set_option maxRecDepth 100000
attribute [local go_sem] Oper.semAt_some
set_option maxHeartbeats 400000 in
theorem escape_any (c : UInt8) (w : World) :
  Calls Tryz.prog 94 #[.int .u8 c.toNat] w fun e w' => e = .returned (S (Lb.esc c)) /\ Below w.heap.size w w' := by
 have hc : (c.toNat : Int) <= 255 := by have := c.toNat_lt; omega
 obtain ⟨d1, h1, e1⟩ : ∃ d : UInt8, Hid (d = 48 + c / 100) /\ (48 + (c.toNat : Int) / 100) = d.toNat := ⟨_, rfl, by simp [UInt8.toNat_add, UInt8.toNat_div]; omega⟩
 obtain ⟨d2, h2, e2⟩ : ∃ d : UInt8, Hid (d = 48 + c / 10 % 10) /\ (48 + (c.toNat : Int) / 10 % 10) = d.toNat := ⟨_, rfl, by simp [UInt8.toNat_add, UInt8.toNat_div, UInt8.toNat_mod]; omega⟩
 obtain ⟨d3, h3, e3⟩ : ∃ d : UInt8, Hid (d = 48 + c % 10) /\ (48 + (c.toNat : Int) % 10) = d.toNat := ⟨_, rfl, by simp [UInt8.toNat_add, UInt8.toNat_mod]; omega⟩
 have hcv : (convert 27 9 (.slice (some ⟨w.heap.size, 0, none⟩) 4 4)).run Tryz.prog (w.alloc (.cells #[.int .u8 92, .int .u8 d1.toNat, .int .u8 d2.toNat, .int .u8 d3.toNat] 5)) = .ok (S [92, d1, d2, d3]) (w.alloc (.cells #[.int .u8 92, .int .u8 d1.toNat, .int .u8 d2.toNat, .int .u8 d3.toNat] 5)) := conv_lit w [92, d1, d2, d3] 4
 go_enter Tryz.func94, Tryz.ntmps94
 go_wp2
 go_ret
 refine ⟨?_, (Below.refl _ _).alloc (Nat.le_refl _) _⟩
 rw [Lb.esc, <- h1.out, <- h2.out, <- h3.out]; rfl
set_option maxHeartbeats 400000 in
theorem check_any (s : List UInt8) (w : World) (hs : s.length <= 1000000) :
  Calls Tryz.prog 49 #[S s] w fun e w' => e = .returned (.int .i64 (Lb.check s.length)) /\ w = w' := by
 go_enter Tryz.func49, Tryz.ntmps49
 go_wp2
 all_goals go_ret
 all_goals refine ⟨ret_int ?_, rfl⟩
 ·have h : s.isEmpty = true := by assumption
  simp at h; simp [h, Lb.check]
 ·have h : s.isEmpty = false := by assumption
  have h2 : (63 : Int) < s.length := by assumption
  unfold Lb.check; rw [if_neg (by omega), if_pos (by omega)]
 ·have h : s.isEmpty = false := by assumption
  have h2 : (s.length : Int) <= 63 := by assumption
  have : s ≠ [] := by simpa using h
  have : s.length ≠ 0 := by simpa using this
  unfold Lb.check; rw [if_neg (by omega), if_neg (by omega)]
theorem indexByte_marks (c : UInt8) : (0 <= Lib.indexByte Lb.marks c) ↔ c ∈ Lb.marks := by
 have h : ∀ n : Fin 256, decide (0 <= Lib.indexByte Lb.marks (UInt8.ofFin n)) = decide (UInt8.ofFin n ∈ Lb.marks) := by decide +kernel
 have := h c.toFin
 simpa using this
theorem idx_marks (c : UInt8) (w : World) :
  Calls Tryz.prog 95 #[S [46, 92, 34, 40, 41, 59, 64, 36], .int .u8 c.toNat] w fun e w' => ∃ n : Int, e = .returned (.int .i64 n) /\ (0 <= n ↔ c ∈ Lb.marks) /\ w = w' := by
 refine (Tryz.strings_IndexByte _ _ _).mono ?_
 rintro e w' ⟨rfl, rfl⟩
 refine ⟨_, rfl, ?_, rfl⟩
 rw [<- indexByte_marks c]
 simp [Lb.marks]
def textI (B : Nat) (w : World) (l : List UInt8) (k : Nat) (W : World) : Prop := k <= l.length /\ Bld B B (Lb.text (l.take k)) W /\ Box (B + 1) 9 (S l) W /\ Below B w W /\ B + 2 <= W.heap.size
theorem textI_put {B w l L} (hL : B <= L) (k : Nat) (A : World) (r : Loop) (o : Obj) (h : textI B w l k A) (hr : A.heap[L]? = some (.loop r)) : textI B w l k (A.putObj L o) := by
 obtain ⟨h1, h2, h3, h4, h5⟩ := h
 exact ⟨h1, builderF_put h2 hr o, h3.put hr o, below_put h4 hL hr (by omega) o, by simpa using h5⟩
theorem textI_step {B : Nat} {w W w2 : World} {l t : List UInt8} {k : Nat} (h : k < l.length) (h2 : Bld B B (Lb.text (l.take k)) W) (h3 : Box (B + 1) 9 (S l) W) (h4 : Below B w W) (h5 : B + 2 <= W.heap.size)
  (ht : Lb.text (l.take (k + 1)) = Lb.text (l.take k) ++ t) (hb : Below B W w2) (ho : Lib.OthersKept 5 (some B) W w2) (hl : Bld B B (Lb.text (l.take k) ++ t) w2) :
  KeepsOthers W w2 /\ sameCell (B + 1) W w2 /\ textI B w l (k + 1) w2 := by
 have hx := h3.others ho (by omega) (by decide)
 exact ⟨keepsOthers_others hb.size ho (builderF_row h2), h3.same hx, h, by rw [ht]; exact hl, hx, h4.trans hb, by have := hb.size; omega⟩
set_option maxRecDepth 10000 in
set_option maxHeartbeats 1000000 in
theorem text_any (l : List UInt8) (w : World) (hl : l.length <= 1000000) :
  Calls Tryz.prog 65 #[S l] w fun e w' => e = .returned (S (Lb.text l)) /\ Below w.heap.size w w' := by
 refine (callsIn_wide (n := 0)).1 ?_
 refine callsIn_of_wp_marks Tryz.func65 rfl trivial ?_ rfl
 simp only [Tryz.ntmps65, List.size_toArray, List.length_cons, List.length_nil, Nat.reduceAdd, Nat.reduceSub, Array.replicate_succ, Array.replicate_zero, List.push_toArray, List.append_toArray, List.nil_append, List.cons_append]
 gi_wp2_with (gi_at_call 93; refine (callsIn_wide.2 (octets_any l _)).mono ?_; rintro e w' ⟨rfl, rfl⟩)
 have hb0 := Bld_new w
 have hx0 := Box.new (w.alloc (.cells #[.pointer none, .slice none 0 0] 94)) 9 (S l)
 rw [World.size_alloc] at hx0
 obtain ⟨W0, hW0, hI0, hs0⟩ : ∃ W0, (w.alloc (.cells #[.pointer none, .slice none 0 0] 94)).alloc (.cells #[S l] 9) = W0 /\ textI w.heap.size w l 0 W0 /\ W0.heap.size = w.heap.size + 2 :=
  ⟨_, rfl, ⟨by omega, builderF_alloc hb0 _, hx0, ((Below.refl _ _).alloc (Nat.le_refl _) _).alloc (by simp) _, by simp⟩, by simp⟩
 rw [hW0]
 clear hW0 hb0 hx0
 refine rf_outer rfl (enters_of Tryz.func115 (by kernel_rfl) rfl) (octets1_iter (w.heap.size + 1) l hl)
  (fun A B h => by subst h; exact KeepsOthers.refl _) sameCell.trans (fun A o => sameCell.put (by omega) A o)
  (fun _ _ _ _ ⟨_, h, _⟩ => by subst h; rfl)
  (textI w.heap.size w l) (fun _ _ => False) (fun _ _ _ h e => by subst e; exact h) (fun _ _ _ h _ => h)
  (textI_put (by omega)) (fun _ _ _ _ h _ => h)
  (fun r => ?start) (fun r => ?pre) ?round ?done (fun _ _ h => h.elim)
 case start =>
  obtain ⟨h1, h2, h3, h4, h5⟩ := hI0
  exact ⟨h1, builderF_alloc (builderF_alloc h2 _) _, (h3.alloc _).alloc _, (h4.alloc (by omega) _).alloc (by simp; omega) _, by simp; omega⟩
 case pre => exact ((hI0.2.2.1.alloc _).alloc _).cell
 case round =>
  rintro n k k' v W hI ⟨h, rfl, rfl⟩
  gi_wp2
  refine rfNext_same (Eq.refl _) hI (textI_put (by omega)) ?_
  clear hI hI0
  rintro W r rfl hr ⟨h1, h2, h3, h4, h5⟩
  have hlen := Lb.text_len (l.take k)
  have hlen2 := Lb.textC_len l[k]
  have htk : (l.take k).length <= 1000000 := by simp; omega
  have HT := Lib.hid (Lb.text_take_succ l k h)
  have hc255 : ((l[k].toNat : Nat) : Int) <= 255 := by have := l[k].toNat_lt; omega
  by_cases ha : l[k].toNat <= 32 \/ 127 <= l[k].toNat
  ·have HC := Lib.hid (show Lb.textC l[k] = Lb.esc l[k] by simp [Lb.textC, ha])
   rw [HC.out] at hlen2
   have ha' : ((l[k].toNat : Nat) : Int) <= 32 \/ 127 <= ((l[k].toNat : Nat) : Int) := by omega
   clear ha
   rcases ha' with ha | ha
   all_goals
    gi_wp2_with (first
     | (gi_at_call 94; refine (CallsIn.inRound _ (callsIn_wide.2 (escape_any l[k] _))).mono ?_; rintro e w1 ⟨rfl, hb1⟩)
     | (gi_at_call 63; refine (CallsIn.inRound _ (callsIn_wide.2 (wstring w.heap.size w.heap.size _ _ _ (builderF_below h2 hb1) (by omega) (by omega) (by have := hb1.size; omega)))).mono ?_; rintro e w2 ⟨rfl, h22, hb2, ho2⟩))
    have h6 := textI_step (w := w) h h2 h3 h4 h5 (by rw [HT.out, HC.out]) (hb1.mono (by omega) |>.trans hb2) ((others_below hb1).trans ho2) h22
    exact h6
  ·have ha1 : 32 < ((l[k].toNat : Nat) : Int) := by omega
   have ha2 : ((l[k].toNat : Nat) : Int) < 127 := by omega
   by_cases hm : l[k] ∈ Lb.marks
   ·have HC := Lib.hid (show Lb.textC l[k] = [92] ++ [l[k]] by simp [Lb.textC, ha, hm])
    clear ha
    gi_wp2_with (gi_at_call 95; refine (CallsIn.inRound _ (callsIn_wide.2 (idx_marks l[k] _))).mono ?_; rintro e w' ⟨n, rfl, hn, rfl⟩; replace hn := hn.2 hm)
    refine (CallsIn.inRound _ (callsIn_wide.2 (wbyte w.heap.size w.heap.size _ 92 92 _ rfl h2 (by omega) (by omega)))).mono ?_
    rintro e w1 ⟨rfl, h21, hb1, ho1⟩
    gi_wp2_with fail
    refine (CallsIn.inRound _ (callsIn_wide.2 (wbyte w.heap.size w.heap.size _ l[k] _ _ rfl h21 (by simp; omega) (by have := hb1.size; omega)))).mono ?_
    rintro e w2 ⟨rfl, h22, hb2, ho2⟩
    gi_wp2_with fail
    rw [List.append_assoc] at h22
    exact textI_step (w := w) h h2 h3 h4 h5 (by rw [HT.out, HC.out]) (hb1.trans hb2) (ho1.trans ho2) h22
   ·have HC := Lib.hid (show Lb.textC l[k] = [l[k]] by simp [Lb.textC, ha, hm])
    clear ha
    gi_wp2_with (gi_at_call 95; refine (CallsIn.inRound _ (callsIn_wide.2 (idx_marks l[k] _))).mono ?_; rintro e w' ⟨n, rfl, hn, rfl⟩; replace hn := fun h => hm (hn.1 h); replace hn := Int.not_le.1 hn)
    refine (CallsIn.inRound _ (callsIn_wide.2 (wbyte w.heap.size w.heap.size _ l[k] _ _ rfl h2 (by omega) (by omega)))).mono ?_
    rintro e w2 ⟨rfl, h22, hb2, ho2⟩
    gi_wp2_with fail
    exact textI_step (w := w) h h2 h3 h4 h5 (by rw [HT.out, HC.out]) hb2 ho2 h22
 case done =>
  rintro k W rfl ⟨h1, h2, h3, h4, h5⟩ hK
  rw [List.take_length] at h2
  gi_wp2_with fail
  refine (callsIn_wide.2 (Tryz.Builder_String_any_k w.heap.size w.heap.size (Lb.text l) _ h2 (by omega))).mono ?_
  rintro e w1 ⟨rfl, h21, hb1, ho1⟩
  gi_wp2_with fail
  rw [hs0] at hK
  have hK1 := ho1 _ _ hK (fun e => by have := Option.some.inj e; omega) (fun _ _ e => by cases e)
  refine ⟨by simp, .inl ⟨_, _, rfl, run_takeDeferred hK1, ?_⟩⟩
  exact ⟨_, results_tmp rfl _ _ _, rfl, (h4.trans hb1).grown (grownBy_putObj' _ _ _) (by have := hb1.size; omega) (fun k e => by have := Option.some.inj e; omega)⟩
end Go.Proofs.YtgmbefolgppmdaaGreatDoor
end
section
namespace Go.Proofs.YtgmbefolgppmdaaGreatDoor
open Go.RowKit Go.Shelf
set_option maxRecDepth 100000
attribute [local go_sem] Oper.semAt_some
set_option maxHeartbeats 1000000 in
theorem refFold_any (l : List UInt8) (w : World) (hl : l.length <= 1000000) :
  Calls Tryz.prog 80 #[S l] w fun e w' => e = .returned (S (Lb.fold l)) /\ Below w.heap.size w w' := by
 obtain ⟨cap, W1, hrun, hrow, hb1, hs1⟩ := bytes_of l w
 go_enter Tryz.func80, Tryz.ntmps80
 go_wp2
 clear hrun
 go_loopw [4] (fun i wr => ∃ k : Nat, k <= l.length /\ i = .int .i64 k /\ ByteRow w.heap.size (Lb.foldTo l k) wr /\ Below w.heap.size w wr) (fun i _ => l.length - (intOf i).toNat)
 case atStart => exact ⟨0, by omega, rfl, by rw [Lb.foldTo_zero]; exact hrow, hb1⟩
 case round =>
  obtain ⟨k, hk, rfl, hr, hb⟩ := hrel
  by_cases hlt : k < l.length
  ·have hlen := Lb.foldTo_length l k
   have hc := hr.cell k (by omega)
   rw [Lb.foldTo_get l k hlt] at hc
   have hf := hr.frozen k (by omega)
   by_cases h1 : 65 <= l[k].toNat /\ l[k].toNat <= 90
   ·have HS := Lib.hid (Lb.foldTo_succ l k hlt)
    have HN := Lib.hid (Lb.low_nat l[k] h1)
    obtain ⟨h11, h12⟩ : 65 <= (l[k].toNat : Int) /\ (l[k].toNat : Int) <= 90 := by omega
    clear h1
    go_wp2
    have hs := hr.set k (Lb.low l[k])
    rw [HN.out, <- HS.out] at hs
    exact ⟨⟨k + 1, by omega, by go_num, hs, hb.setCell (p := ⟨w.heap.size, k, none⟩) (Nat.le_refl _) _⟩, by simp [intOf]; omega⟩
   ·have HS := Lib.hid (Lb.foldTo_same l k hlt (Lb.low_not _ h1))
    have hH := Lib.hid h1
    clear h1
    go_wp2
    all_goals first
     | (exfalso; have h2 : 65 <= (l[k].toNat : Int) := by assumption
        have h3 : (l[k].toNat : Int) <= 90 := by assumption
        exact hH.out ⟨by omega, by omega⟩)
     | exact ⟨⟨k + 1, by omega, by go_num, by rw [HS.out]; exact hr, hb⟩, by simp [intOf]; omega⟩
  ·obtain rfl : l.length = k := by omega
   have hlen := Lb.foldTo_length l l.length
   rw [Lb.foldTo_all] at hr hlen
   have hcv := conv_row _ _ cap _ hr
   rw [hlen] at hcv
   go_wp2
   go_ret
   exact ⟨rfl, hb⟩
def foldI (B : Nat) (cap : Nat) (w : World) (l : List UInt8) (k : Nat) (W : World) : Prop :=
 k <= l.length /\ ByteRow B (Lb.foldTo l k) W /\ Box (B + 1) 27 (.slice (some ⟨B, 0, none⟩) l.length cap) W /\ Box (B + 2) 9 (S l) W /\ Below B w W /\ B + 3 <= W.heap.size
theorem foldI_put {B cap w l L} (hL : B <= L) (k : Nat) (A : World) (r : Loop) (o : Obj) (h : foldI B cap w l k A) (hr : A.heap[L]? = some (.loop r)) : foldI B cap w l k (A.putObj L o) := by
 obtain ⟨h1, h2, h3, h4, h5, h6⟩ := h
 exact ⟨h1, h2.put hr o, h3.put hr o, h4.put hr o, below_put h5 hL hr (by omega) o, by simpa using h6⟩
set_option maxRecDepth 10000 in
set_option maxHeartbeats 1000000 in
theorem fold_any (l : List UInt8) (w : World) (hl : l.length <= 1000000) :
  Calls Tryz.prog 84 #[S l] w fun e w' => e = .returned (S (Lb.fold l)) /\ Below w.heap.size w w' := by
 obtain ⟨cap, W1, hrun, hrow, hb1, hs1⟩ := bytes_of l w
 refine (callsIn_wide (n := 0)).1 ?_
 refine callsIn_of_wp_marks Tryz.func84 rfl trivial ?_ rfl
 simp only [Tryz.ntmps84, List.size_toArray, List.length_cons, List.length_nil, Nat.reduceAdd, Nat.reduceSub, Array.replicate_succ, Array.replicate_zero, List.push_toArray, List.append_toArray, List.nil_append, List.cons_append]
 gi_wp2_with (gi_at_call 93; refine (callsIn_wide.2 (octets_any l _)).mono ?_; rintro e w' ⟨rfl, rfl⟩)
 clear hrun
 have hx1 := Box.new W1 27 (.slice (some ⟨w.heap.size, 0, none⟩) l.length cap)
 have hx2 := Box.new (W1.alloc (.cells #[.slice (some ⟨w.heap.size, 0, none⟩) l.length cap] 27)) 9 (S l)
 rw [World.size_alloc] at hx2
 rw [hs1] at hx1 hx2
 obtain ⟨W0, hW0, hI0, hs0⟩ : ∃ W0, (W1.alloc (.cells #[.slice (some ⟨w.heap.size, 0, none⟩) l.length cap] 27)).alloc (.cells #[S l] 9) = W0 /\ foldI w.heap.size cap w l 0 W0 /\ W0.heap.size = w.heap.size + 3 :=
  ⟨_, rfl, ⟨by omega, by rw [Lb.foldTo_zero]; exact (hrow.alloc _).alloc _, hx1.alloc _, hx2, (hb1.alloc (by omega) _).alloc (by simp; omega) _, by simp; omega⟩, by simp; omega⟩
 rw [hW0]
 clear hW0 hx1 hx2 hrow hb1 hs1
 refine rf_outer rfl (enters_of Tryz.func115 (by kernel_rfl) rfl) (octets1_iter (w.heap.size + 2) l hl)
  (fun A B h => by subst h; exact KeepsOthers.refl _) sameCell.trans (fun A o => sameCell.put (by omega) A o)
  (fun _ _ _ _ ⟨_, h, _⟩ => by subst h; rfl)
  (foldI w.heap.size cap w l) (fun _ _ => False) (fun _ _ _ h e => by subst e; exact h) (fun _ _ _ h _ => h)
  (foldI_put (by omega)) (fun _ _ _ _ h _ => h)
  (fun r => ?start) (fun r => ?pre) ?round ?done (fun _ _ h => h.elim)
 case start =>
  obtain ⟨h1, h2, h3, h4, h5, h6⟩ := hI0
  exact ⟨h1, (h2.alloc _).alloc _, (h3.alloc _).alloc _, (h4.alloc _).alloc _, (h5.alloc (by omega) _).alloc (by simp; omega) _, by simp; omega⟩
 case pre => exact ((hI0.2.2.2.1.alloc _).alloc _).cell
 case round =>
  rintro n k k' v W hI ⟨h, rfl, rfl⟩
  gi_wp2
  refine rfNext_same (Eq.refl _) hI (foldI_put (by omega)) ?_
  clear hI hI0
  rintro W r rfl hr ⟨h1, h2, h3, h4, h5, h6⟩
  have hlen := Lb.foldTo_length l k
  have hc := h2.cell k (by omega)
  rw [Lb.foldTo_get l k h] at hc
  have hf := h2.frozen k (by omega)
  have hcb := h3.cell
  have hc255 : ((l[k].toNat : Nat) : Int) <= 255 := by have := l[k].toNat_lt; omega
  by_cases hm : 65 <= l[k].toNat /\ l[k].toNat <= 90
  ·have HS := Lib.hid (Lb.foldTo_succ l k h)
   have HN := Lib.hid (Lb.low_nat l[k] hm)
   obtain ⟨h11, h12⟩ : 65 <= (l[k].toNat : Int) /\ (l[k].toNat : Int) <= 90 := by omega
   clear hm
   gi_wp2
   have hs := h2.set k (Lb.low l[k])
   rw [HN.out, <- HS.out] at hs
   rw [show ((l[k].toNat : Int) + 97 - 65) = ((l[k].toNat + 32 : Nat) : Int) by omega]
   have hx := h4.setOther (c := w.heap.size) (o := k) (by omega) (.int .u8 ((l[k].toNat + 32 : Nat) : Int))
   exact ⟨KeepsOthers.setCell _ _ _, h4.same hx, h, hs, h3.setOther (by omega) _, hx, h5.setCell (p := ⟨w.heap.size, k, none⟩) (Nat.le_refl _) _, by simpa [World.setCell] using h6⟩
  ·have HS := Lib.hid (Lb.foldTo_same l k h (Lb.low_not _ hm))
   have hm' : ¬ (65 <= (l[k].toNat : Int)) \/ 90 < (l[k].toNat : Int) := by omega
   clear hm
   have hH := Lib.hid hm'
   clear hm'
   gi_wp2
   all_goals first
    | (exfalso; have h2 : 65 <= (l[k].toNat : Int) := by assumption
       have h3 : (l[k].toNat : Int) <= 90 := by assumption
       have := hH.out; omega)
    | exact ⟨KeepsOthers.refl _, Eq.refl _, h, by rw [HS.out]; exact h2, h3, h4, h5, h6⟩
 case done =>
  rintro k W rfl ⟨h1, h2, h3, h4, h5, h6⟩ hK
  rw [hs0] at hK ⊢
  have hlen := Lb.foldTo_length l l.length
  rw [Lb.foldTo_all] at h2 hlen
  have hcv := conv_row _ _ cap _ h2
  rw [hlen] at hcv
  have hcb := h3.cell
  gi_wp2
  refine ⟨by simp, .inl ⟨_, _, rfl, run_takeDeferred hK, ?_⟩⟩
  exact ⟨_, results_tmp rfl _ _ _, rfl, h5.grown (grownBy_putObj' _ _ _) (by omega) (fun k e => by have := Option.some.inj e; omega)⟩
end Go.Proofs.YtgmbefolgppmdaaGreatDoor
end
section
namespace Go.Proofs.YtgmbefolgppmdaaGreatDoor
open Go.RowKit Go.Shelf
set_option maxRecDepth 100000
attribute [local go_sem] Oper.semAt_some
def DigN (s : List UInt8) (n : Nat) : Prop := n <= 3 /\ ∃ h : n <= s.length, (∀ j (hj : j < n), Lb.isDig (s[j]'(by omega))) /\ (n = 3 \/ n = s.length \/ ∃ hn : n < s.length, ¬ Lb.isDig s[n])
def DigP (s : List UInt8) (w : World) (e : Ending) (w' : World) : Prop := ∃ n : Nat, DigN s n /\ e = .returned (.int .i64 n) /\ w = w'
def DigTo (s : List UInt8) (k : Nat) : Prop := k <= 3 /\ ∃ h : k <= s.length, (∀ j (hj : j < k), Lb.isDig (s[j]'(by omega)))
theorem DigTo.zero (s : List UInt8) : DigTo s 0 := ⟨by omega, by omega, fun j hj => by omega⟩
theorem DigTo.succ {s : List UInt8} {k : Nat} (h : DigTo s k) (h3 : k < 3) (hl : k < s.length) (hd : Lb.isDig s[k]) : DigTo s (k + 1) := by
 obtain ⟨h1, h2, h4⟩ := h
 refine ⟨by omega, by omega, fun j hj => ?_⟩
 by_cases e : j = k
 ·subst e; exact hd
 ·exact h4 j (by omega)
theorem DigTo.done {s : List UInt8} {k : Nat} (h : DigTo s k) (hd : ¬ (k < 3 /\ k < s.length)) : DigN s k := by
 obtain ⟨h1, h2, h4⟩ := h
 exact ⟨h1, h2, h4, by omega⟩
theorem DigTo.stop {s : List UInt8} {k : Nat} (h : DigTo s k) (hl : k < s.length) (hd : ¬ Lb.isDig s[k]) : DigN s k := by
 obtain ⟨h1, h2, h4⟩ := h
 exact ⟨h1, h2, h4, .inr (.inr ⟨hl, hd⟩)⟩
def EscP (s : List UInt8) (w : World) (e : Ending) (w' : World) : Prop := e = .returned (.tuple #[.int .u8 (Lb.escd s).1.toNat, .int .i64 (Lb.escd s).2.1, .int .i64 (Lb.escd s).2.2]) /\ Below w.heap.size w w'
theorem EscP.mk {s : List UInt8} {w w' : World} {a : Int} {b c : Int} (x : UInt8) (y : Nat) (z : Int) (h : Lb.escd s = (x, y, z)) (ha : a = x.toNat) (hb : b = y) (hc : c = z) (hw : Below w.heap.size w w') : EscP s w (.returned (.tuple #[.int .u8 a, .int .i64 b, .int .i64 c])) w' := by
 subst ha; subst hb; subst hc; unfold EscP; rw [h]; exact ⟨rfl, hw⟩
end Go.Proofs.YtgmbefolgppmdaaGreatDoor
end
section
namespace Go.Proofs.YtgmbefolgppmdaaGreatDoor
open Go.RowKit Go.Shelf
set_option maxRecDepth 100000
attribute [local go_sem] Oper.semAt_some
structure UnM (B : Nat) (w : World) (s bare out : List UInt8) (behind : Nat) (W : World) : Prop where
 bs : Box B 9 (S s) W
 bb : Box (B + 1) 9 (S bare) W
 r0 : Box (B + 2) 9 (S []) W
 r1 : Box (B + 3) 43 (.int .i64 0) W
 out : Bld B (B + 4) out W
 beh : Box (B + 5) 3 (.int .i64 behind) W
 it : Box (B + 6) 9 (S s) W
 below : Below B w W
 size : B + 7 <= W.heap.size
theorem UnM.put {B w s bare out behind L W} (h : UnM B w s bare out behind W) (hL : B <= L) {r : Loop} (hr : W.heap[L]? = some (.loop r)) (o : Obj) : UnM B w s bare out behind (W.putObj L o) :=
 ⟨h.bs.put hr o, h.bb.put hr o, h.r0.put hr o, h.r1.put hr o, builderF_put h.out hr o, h.beh.put hr o, h.it.put hr o, below_put h.below hL hr (by have := h.size; omega) o, by simpa using h.size⟩
theorem UnM.alloc {B w s bare out behind W} (h : UnM B w s bare out behind W) (o : Obj) : UnM B w s bare out behind (W.alloc o) :=
 ⟨h.bs.alloc o, h.bb.alloc o, h.r0.alloc o, h.r1.alloc o, builderF_alloc h.out o, h.beh.alloc o, h.it.alloc o, h.below.alloc (by have := h.size; omega) o, by have := h.size; simp; omega⟩
theorem UnM.call {B w s bare out behind W W'} (h : UnM B w s bare out behind W) (hb : Below W.heap.size W W') : UnM B w s bare out behind W' :=
 ⟨h.bs.below hb, h.bb.below hb, h.r0.below hb, h.r1.below hb, builderF_below h.out hb, h.beh.below hb, h.it.below hb, h.below.trans (hb.mono (by have := h.size; omega)), by have := h.size; have := hb.size; omega⟩
theorem UnM.wrote {B w s bare out out' behind W W'} (h : UnM B w s bare out behind W) (hb : Below B W W') (ho : Lib.OthersKept 5 (some (B + 4)) W W') (hl : Bld B (B + 4) out' W') : UnM B w s bare out' behind W' :=
 ⟨h.bs.others ho (by omega) (by decide), h.bb.others ho (by omega) (by decide), h.r0.others ho (by omega) (by decide), h.r1.others ho (by omega) (by decide), hl, h.beh.others ho (by omega) (by decide), h.it.others ho (by omega) (by decide), h.below.trans hb, by have := h.size; have := hb.size; omega⟩
theorem CellsKept.setOther {W : World} (b : Nat) (_hb : ∃ v t f, W.heap[b]? = some (.cells v t f)) (u : Value) (k : Nat) (hk : k ≠ b) : (W.setCell ⟨b, 0, none⟩ u).heap[k]? = W.heap[k]? := Below.heap_setCell _ _ _ _ hk
def UnI (B : Nat) (w : World) (s bare : List UInt8) (k : Nat) (W : World) : Prop :=
 ∃ out behind, Lb.Ahead bare s out (s.drop behind) /\ k <= behind /\ behind <= s.length /\ out.length <= k /\ UnM B w s bare out behind W
theorem UnI.put {B w s bare L} (hL : B <= L) (k : Nat) (A : World) (r : Loop) (o : Obj) (h : UnI B w s bare k A) (hr : A.heap[L]? = some (.loop r)) : UnI B w s bare k (A.putObj L o) := by
 obtain ⟨out, behind, h1, h2, h3, h4, h5⟩ := h
 exact ⟨out, behind, h1, h2, h3, h4, h5.put hL hr o⟩
def UnX (B : Nat) (w : World) (s bare : List UInt8) (c : Code) (W : World) : Prop :=
 c = .ret /\ ∃ z : Int, Lb.unesc bare s = ([], z) /\ Box (B + 2) 9 (S []) W /\ Box (B + 3) 43 (.int .i64 z) W /\ Below B w W /\ B + 7 <= W.heap.size
theorem UnX.put {B w s bare L} (hL : B <= L) (c : Code) (A : World) (r : Loop) (o : Obj) (h : UnX B w s bare c A) (hr : A.heap[L]? = some (.loop r)) : UnX B w s bare c (A.putObj L o) := by
 obtain ⟨h0, z, h1, h2, h3, h4, h5⟩ := h
 exact ⟨h0, z, h1, h2.put hr o, h3.put hr o, below_put h4 hL hr (by omega) o, by simpa using h5⟩
theorem UnM.exit {B w s bare out behind V} (h : UnM B w s bare out behind V) (z : Int) (hz : Lb.unesc bare s = ([], z)) :
  UnX B w s bare .ret ((V.setCell ⟨B + 2, 0, none⟩ (S [])).setCell ⟨B + 3, 0, none⟩ (.int .i64 z)) :=
 ⟨rfl, z, hz, (h.r0.set _).setOther (by omega) _, (h.r1.setOther (by omega) _).set _, (h.below.setCell (p := ⟨B + 2, 0, none⟩) (show B <= B + 2 by omega) _).setCell (p := ⟨B + 3, 0, none⟩) (show B <= B + 3 by omega) _, by have := h.size; simpa [World.setCell] using this⟩
end Go.Proofs.YtgmbefolgppmdaaGreatDoor
end
section
namespace Go.Proofs.YtgmbefolgppmdaaGreatDoor
open Go.RowKit Go.Shelf
set_option maxRecDepth 100000
theorem cmp_anti : ∀ (a b : List UInt8), Lib.compareBytes b a = - Lib.compareBytes a b
 | [], [] => rfl
 | [], _ :: _ => rfl
 | _ :: _, [] => rfl
 | x :: a, y :: b => by
  have ih := cmp_anti a b
  simp only [Lib.compareBytes]
  by_cases h1 : x < y
  ·have h2 : ¬ y < x := by intro h; exact absurd (UInt8.lt_iff_toNat_lt.1 h) (by have := UInt8.lt_iff_toNat_lt.1 h1; omega)
   simp [h1, h2]
  ·by_cases h2 : y < x
   ·simp [h1, h2]
   ·simp [h1, h2, ih]
theorem cmp_eq_zero : ∀ (a b : List UInt8), Lib.compareBytes a b = 0 ↔ a = b
 | [], [] => by simp [Lib.compareBytes]
 | [], _ :: _ => by simp [Lib.compareBytes]
 | _ :: _, [] => by simp [Lib.compareBytes]
 | x :: a, y :: b => by
  have ih := cmp_eq_zero a b
  simp only [Lib.compareBytes]
  by_cases h1 : x < y
  ·have : x ≠ y := fun e => by subst e; exact absurd (UInt8.lt_iff_toNat_lt.1 h1) (by omega)
   simp [h1, this]
  ·by_cases h2 : y < x
   ·have : x ≠ y := fun e => by subst e; exact absurd (UInt8.lt_iff_toNat_lt.1 h2) (by omega)
    simp [h1, h2, this]
   ·have : x = y := UInt8.toNat_inj.1 (by have := mt UInt8.lt_iff_toNat_lt.2 h1; have := mt UInt8.lt_iff_toNat_lt.2 h2; omega)
    simp [ih, this]
theorem cmp_range (a b : List UInt8) : Lib.compareBytes a b = -1 \/ Lib.compareBytes a b = 0 \/ Lib.compareBytes a b = 1 := by
 induction a generalizing b with
 | nil => cases b <;> simp [Lib.compareBytes]
 | cons x a ih =>
  cases b with
  | nil => simp [Lib.compareBytes]
  | cons y b =>
   simp only [Lib.compareBytes]
   have := ih b
   split
   ·simp
   ·split
    ·simp
    ·exact this
theorem cmp_trans : ∀ (a b c : List UInt8), Lib.compareBytes a b <= 0 -> Lib.compareBytes b c <= 0 -> Lib.compareBytes a c <= 0
 | [], _, [] => by simp [Lib.compareBytes]
 | [], _, _ :: _ => by simp [Lib.compareBytes]
 | _ :: _, [], _ => by simp [Lib.compareBytes]
 | _ :: _, _ :: _, [] => by simp [Lib.compareBytes]
 | x :: a, y :: b, z :: c => by
  have ih := cmp_trans a b c
  simp only [Lib.compareBytes, UInt8.lt_iff_toNat_lt]
  intro h1 h2
  repeat' split at h1
  all_goals (repeat' split at h2)
  all_goals (repeat' split)
  all_goals first | omega | (exact ih h1 h2)
theorem less_cmp : ∀ (a b : List UInt8), Op.bytesLess a b = decide (Lib.compareBytes a b < 0)
 | [], [] => by simp [Lib.compareBytes, Op.bytesLess]
 | [], _ :: _ => by simp [Lib.compareBytes, Op.bytesLess]
 | _ :: _, [] => by simp [Lib.compareBytes, Op.bytesLess]
 | x :: a, y :: b => by
  have ih := less_cmp a b
  simp only [Lib.compareBytes, Op.bytesLess]
  by_cases h1 : x < y
  ·simp [h1]
  ·by_cases h2 : y < x
   ·have : x ≠ y := fun e => by subst e; exact absurd (UInt8.lt_iff_toNat_lt.1 h2) (by omega)
    simp [h1, h2, this]
   ·have : x = y := UInt8.toNat_inj.1 (by have := mt UInt8.lt_iff_toNat_lt.2 h1; have := mt UInt8.lt_iff_toNat_lt.2 h2; omega)
    simp [ih, this]
def cmpL (a b : List UInt8) : Int := Lib.compareBytes (Lb.fold a) (Lb.fold b)
set_option maxHeartbeats 400000 in
theorem compare_any (a b : List UInt8) (w : World) (ha : a.length <= 1000000) (hb : b.length <= 1000000) :
  Calls Tryz.prog 54 #[S a, S b] w fun e w' => e = .returned (.int .i64 (cmpL a b)) /\ Below w.heap.size w w' := by
 go_enter Tryz.func54, Tryz.ntmps54
 go_wp2_with fail
 refine (fold_any a _ ha).mono ?_
 rintro e w1 ⟨rfl, hb1⟩
 go_wp2_with fail
 refine (fold_any b _ hb).mono ?_
 rintro e w2 ⟨rfl, hb2⟩
 go_wp2_with fail
 refine (Tryz.strings_Compare _ _ _).mono ?_
 rintro e w3 ⟨rfl, rfl⟩
 go_wp2_with fail
 go_ret
 exact ⟨rfl, hb1.trans (hb2.mono hb1.size)⟩
set_option maxHeartbeats 400000 in
theorem refOrder_any (a b : List UInt8) (w : World) :
  Calls Tryz.prog 48 #[S a, S b] w fun e w' => e = .returned (.int .i64 (Lib.compareBytes a b)) /\ w = w' := by
 have h1 := less_cmp a b
 have h2 : (a == b) = decide (Lib.compareBytes a b = 0) := by rw [Bool.eq_iff_iff]; simp [cmp_eq_zero]
 rcases cmp_range a b with h | h | h
 all_goals
  rw [h] at h1 h2 ⊢
  go_enter Tryz.func48, Tryz.ntmps48
  go_wp2
  go_ret
  exact ⟨rfl, rfl⟩
set_option maxHeartbeats 400000 in
theorem refCompare_any (a b : List UInt8) (w : World) (ha : a.length <= 1000000) (hb : b.length <= 1000000) :
  Calls Tryz.prog 45 #[S a, S b] w fun e w' => e = .returned (.int .i64 (cmpL a b)) /\ Below w.heap.size w w' := by
 go_enter Tryz.func45, Tryz.ntmps45
 go_wp2_with fail
 refine (refFold_any a _ ha).mono ?_
 rintro e w1 ⟨rfl, hb1⟩
 go_wp2_with fail
 refine (refFold_any b _ hb).mono ?_
 rintro e w2 ⟨rfl, hb2⟩
 go_wp2_with fail
 refine (refOrder_any _ _ _).mono ?_
 rintro e w3 ⟨rfl, rfl⟩
 go_wp2_with fail
 go_ret
 exact ⟨rfl, hb1.trans (hb2.mono hb1.size)⟩
set_option maxHeartbeats 400000 in
theorem refCheck_any (s : List UInt8) (w : World) (hs : s.length <= 1000000) :
  Calls Tryz.prog 42 #[S s] w fun e w' => e = .returned (.int .i64 (Lb.check s.length)) /\ w = w' := by
 go_enter Tryz.func42, Tryz.ntmps42
 go_wp2
 all_goals go_ret
 all_goals refine ⟨ret_int ?_, rfl⟩
 ·have h : s.isEmpty = true := by assumption
  simp at h; simp [h, Lb.check]
 ·have h : s.isEmpty = false := by assumption
  have h2 : (63 : Int) < s.length := by assumption
  unfold Lb.check; rw [if_neg (by omega), if_pos (by omega)]
 ·have h : s.isEmpty = false := by assumption
  have h2 : (s.length : Int) <= 63 := by assumption
  have : s ≠ [] := by simpa using h
  have : s.length ≠ 0 := by simpa using this
  unfold Lb.check; rw [if_neg (by omega), if_neg (by omega)]
def SpP (w : World) (c : UInt8) (s : List UInt8) (e : Ending) (w' : World) : Prop := e = .returned (.bool (decide (c ∈ s))) /\ w = w'
set_option maxHeartbeats 400000 in
theorem refSpecial_any (c : UInt8) (s : List UInt8) (w : World) (hs : s.length <= 1000000) :
  Calls Tryz.prog 107 #[.int .u8 c.toNat, S s] w (SpP w c s) := by
 go_enter Tryz.func107, Tryz.ntmps107
 go_wp2
 go_loop [5] (fun i => ∃ k : Nat, k <= s.length /\ c ∉ s.take k /\ i = .int .i64 k) (fun i => s.length - (intOf i).toNat)
 case atStart => exact ⟨0, Nat.zero_le _, by simp, rfl⟩
 case round =>
  obtain ⟨k, hk, hn, rfl⟩ := hrel
  by_cases hlt : k < s.length
  ·have HT := Lib.hid (List.take_succ_eq_append_getElem hlt)
   by_cases he : s[k] = c
   ·have hb : ((s[k].toNat : Int) == c.toNat) = true := by rw [he]; simp
    have HM := Lib.hid (show c ∈ s by rw [<- he]; exact List.getElem_mem _)
    clear he hn
    go_wp2
    go_ret
    exact ⟨ret_bool (by simp [HM.out]), rfl⟩
   ·have hb : ((s[k].toNat : Int) == c.toNat) = false := by
     rw [beq_eq_false_iff_ne]; intro e; apply he; apply UInt8.toNat_inj.1; exact_mod_cast e
    have HN := Lib.hid (show c ∉ s.take (k + 1) by
     rw [HT.out]; intro h; rcases List.mem_append.1 h with h | h
     ·exact hn h
     ·exact he (List.mem_singleton.1 h).symm)
    clear he hn
    go_wp2
    exact ⟨⟨k + 1, by omega, HN.out, by go_num⟩, by simp [intOf]; omega⟩
  ·have HN := Lib.hid hn
   clear hn
   go_wp2
   go_ret
   exact ⟨ret_bool (by have := HN.out; rw [List.take_of_length_le (by omega)] at this; simp [this]), rfl⟩
theorem refSpecial_at (c : UInt8) (s : List UInt8) (b : Bool) (hb : decide (c ∈ s) = b) (w : World) (hs : s.length <= 1000000) :
  Calls Tryz.prog 107 #[.int .u8 c.toNat, S s] w fun e w' => e = .returned (.bool b) /\ w = w' := by
 subst hb; exact refSpecial_any c s w hs
set_option maxHeartbeats 400000 in
theorem refEscaped_any (c : UInt8) (w : World) :
  Calls Tryz.prog 108 #[.int .u8 c.toNat] w fun e w' => e = .returned (S (Lb.esc c)) /\ Below w.heap.size w w' := by
 have hc : (c.toNat : Int) <= 255 := by have := c.toNat_lt; omega
 obtain ⟨d1, h1, e1⟩ : ∃ d : UInt8, Hid (d = 48 + c / 100) /\ (48 + (c.toNat : Int) / 100) = d.toNat := ⟨_, rfl, by simp [UInt8.toNat_add, UInt8.toNat_div]; omega⟩
 obtain ⟨d2, h2, e2⟩ : ∃ d : UInt8, Hid (d = 48 + c / 10 % 10) /\ (48 + (c.toNat : Int) / 10 % 10) = d.toNat := ⟨_, rfl, by simp [UInt8.toNat_add, UInt8.toNat_div, UInt8.toNat_mod]; omega⟩
 obtain ⟨d3, h3, e3⟩ : ∃ d : UInt8, Hid (d = 48 + c % 10) /\ (48 + (c.toNat : Int) % 10) = d.toNat := ⟨_, rfl, by simp [UInt8.toNat_add, UInt8.toNat_mod]; omega⟩
 have hcv : (convert 27 9 (.slice (some ⟨w.heap.size, 0, none⟩) 3 3)).run Tryz.prog (w.alloc (.cells #[.int .u8 d1.toNat, .int .u8 d2.toNat, .int .u8 d3.toNat] 5)) = .ok (S [d1, d2, d3]) (w.alloc (.cells #[.int .u8 d1.toNat, .int .u8 d2.toNat, .int .u8 d3.toNat] 5)) := conv_lit w [d1, d2, d3] 3
 go_enter Tryz.func108, Tryz.ntmps108
 go_wp2
 go_ret
 refine ⟨?_, (Below.refl _ _).alloc (Nat.le_refl _) _⟩
 rw [Lb.esc, <- h1.out, <- h2.out, <- h3.out]; rfl
set_option maxHeartbeats 1000000 in
theorem refText_any (l : List UInt8) (w : World) (hl : l.length <= 1000000) :
  Calls Tryz.prog 71 #[S l] w fun e w' => e = .returned (S (Lb.text l)) /\ Below w.heap.size w w' := by
 go_enter Tryz.func71, Tryz.ntmps71
 go_wp2
 go_loopw [3, 4] (fun v i wr => ∃ k : Nat, k <= l.length /\ v = S (Lb.text (l.take k)) /\ i = .int .i64 k /\ Below w.heap.size w wr) (fun _ i _ => l.length - (intOf i).toNat)
 case atStart => exact ⟨0, by omega, rfl, rfl, Below.refl _ _⟩
 case round =>
  obtain ⟨k, hk, rfl, rfl, hb⟩ := hrel
  by_cases hlt : k < l.length
  ·have HT := Lib.hid (Lb.text_take_succ l k hlt)
   have HR := Lib.hid (Lb.refTextC_eq l[k])
   have hc255 : ((l[k].toNat : Nat) : Int) <= 255 := by have := l[k].toNat_lt; omega
   have hlen := Lb.text_len (l.take k)
   have htk : (l.take k).length <= 1000000 := by simp; omega
   have H1 := Lib.hid (take_one l k hlt)
   have hel : (Lb.esc l[k]).length <= 4 := by simp [Lb.esc]
   by_cases hm : l[k] ∈ Lb.marks
   ·have HC := Lib.hid (show Lb.refTextC l[k] = [92, l[k]] by simp [Lb.refTextC, hm])
    have hd : decide (l[k] ∈ Lb.marks) = true := by simpa using hm
    have HM := Lib.hid hd
    clear hm hd
    go_wp2_with (go_at_call 107; refine (refSpecial_at l[k] Lb.marks true HM.out _ (by decide)).mono ?_; rintro e w1 ⟨rfl, rfl⟩)
    exact ⟨⟨k + 1, by omega, by rw [append_S, append_S, H1.out, HT.out, <- HR.out, HC.out, List.append_assoc]; rfl, by go_num, hb⟩, by simp [intOf]; omega⟩
   ·have hd : decide (l[k] ∈ Lb.marks) = false := by simpa using hm
    have HM := Lib.hid hd
    by_cases h1 : 33 <= l[k].toNat /\ l[k].toNat <= 126
    ·have HC := Lib.hid (show Lb.refTextC l[k] = [l[k]] by simp [Lb.refTextC, hm, h1])
     obtain ⟨h11, h12⟩ : 33 <= (l[k].toNat : Int) /\ (l[k].toNat : Int) <= 126 := by omega
     clear hm hd h1
     go_wp2_with (go_at_call 107; refine (refSpecial_at l[k] Lb.marks false HM.out _ (by decide)).mono ?_; rintro e w1 ⟨rfl, rfl⟩)
     exact ⟨⟨k + 1, by omega, by rw [append_S, H1.out, HT.out, <- HR.out, HC.out], by go_num, hb⟩, by simp [intOf]; omega⟩
    ·have HC := Lib.hid (show Lb.refTextC l[k] = Lb.esc l[k] by simp [Lb.refTextC, hm, h1])
     have h1' : (l[k].toNat : Int) < 33 \/ 126 < (l[k].toNat : Int) := by omega
     clear hm hd h1
     rcases h1' with h1 | h1
     all_goals
      go_wp2_with (first
       | (go_at_call 107; refine (refSpecial_at l[k] Lb.marks false HM.out _ (by decide)).mono ?_; rintro e w1 ⟨rfl, rfl⟩)
       | (go_at_call 108; refine (refEscaped_any l[k] _).mono ?_; rintro e w2 ⟨rfl, hb2⟩))
      exact ⟨⟨k + 1, by omega, by rw [append_S, HT.out, <- HR.out, HC.out], by go_num, hb.trans (hb2.mono hb.size)⟩, by simp [intOf]; omega⟩
  ·obtain rfl : l.length = k := by omega
   go_wp2
   go_ret
   exact ⟨ret_S (by rw [List.take_length]), hb⟩
end Go.Proofs.YtgmbefolgppmdaaGreatDoor
end
section
namespace Go.Proofs.YtgmbefolgppmdaaGreatDoor
open Go.RowKit Go.Shelf
set_option maxRecDepth 100000
def bareOf (dots : Bool) : List UInt8 := if dots then [] else [46]
def OctI (w : World) (s : List UInt8) (dots : Bool) (v i : Value) (wr : World) : Prop :=
 ∃ (out : List UInt8) (k : Nat), k <= s.length /\ Lb.Ahead (bareOf dots) s out (s.drop k) /\ v = S out /\ i = .int .i64 k /\ out.length <= k /\ Below w.heap.size w wr
theorem OctI.mk {w : World} {s : List UInt8} {dots : Bool} {wr : World} (out : List UInt8) (k : Nat) {n : Int} {l : List UInt8} (hn : n = k) (hl : l = out) (h1 : k <= s.length) (h2 : Lb.Ahead (bareOf dots) s out (s.drop k)) (h3 : out.length <= k) (h4 : Below w.heap.size w wr) :
  OctI w s dots (S l) (.int .i64 n) wr := by subst hn; subst hl; exact ⟨l, k, h1, h2, rfl, rfl, h3, h4⟩
def OctP (w : World) (s : List UInt8) (dots : Bool) (e : Ending) (w' : World) : Prop := e = .returned (.tuple #[S (Lb.unesc (bareOf dots) s).1, .int .i64 (Lb.unesc (bareOf dots) s).2]) /\ Below w.heap.size w w'
theorem OctP.mk {w w' : World} {s : List UInt8} {dots : Bool} (l : List UInt8) (z : Int) (h : Lb.unesc (bareOf dots) s = (l, z)) (hb : Below w.heap.size w w') : OctP w s dots (.returned (.tuple #[S l, .int .i64 z])) w' := by
 unfold OctP; rw [h]; exact ⟨rfl, hb⟩
end Go.Proofs.YtgmbefolgppmdaaGreatDoor
end
