/- label: Escape, Text, Check, Fold. -/
import Derived.Test.YtikibmeopndncaaOct
import Derived.Test.YtikibmeopndncaaLabSpec
namespace Go.Proofs.Ytikibmeopndncaa
open Go.RowKit Go.Shelf
set_option maxRecDepth 100000
attribute [local go_sem] Oper.semAt_some

set_option maxHeartbeats 400000 in
theorem escape_any (c : UInt8) (w : World) :
    Calls Try.prog 85 #[.int .u8 c.toNat] w fun e w' => e = .returned (S (Lb.esc c)) ∧ Below w.heap.size w w' := by
  have hc : (c.toNat : Int) ≤ 255 := by have := c.toNat_lt; omega
  obtain ⟨d1, h1, e1⟩ : ∃ d : UInt8, Hid (d = 48 + c / 100) ∧ (48 + (c.toNat : Int) / 100) = d.toNat := ⟨_, rfl, by simp [UInt8.toNat_add, UInt8.toNat_div]; omega⟩
  obtain ⟨d2, h2, e2⟩ : ∃ d : UInt8, Hid (d = 48 + c / 10 % 10) ∧ (48 + (c.toNat : Int) / 10 % 10) = d.toNat := ⟨_, rfl, by simp [UInt8.toNat_add, UInt8.toNat_div, UInt8.toNat_mod]; omega⟩
  obtain ⟨d3, h3, e3⟩ : ∃ d : UInt8, Hid (d = 48 + c % 10) ∧ (48 + (c.toNat : Int) % 10) = d.toNat := ⟨_, rfl, by simp [UInt8.toNat_add, UInt8.toNat_mod]; omega⟩
  have hcv : (convert 84 9 (.slice (some ⟨w.heap.size, 0, none⟩) 4 4)).run Try.prog (w.alloc (.cells #[.int .u8 92, .int .u8 d1.toNat, .int .u8 d2.toNat, .int .u8 d3.toNat] 5)) = .ok (S [92, d1, d2, d3]) (w.alloc (.cells #[.int .u8 92, .int .u8 d1.toNat, .int .u8 d2.toNat, .int .u8 d3.toNat] 5)) := conv_lit w [92, d1, d2, d3] 4
  go_enter Try.func85, Try.ntmps85
  go_wp2
  go_ret
  refine ⟨?_, (Below.refl _ _).alloc (Nat.le_refl _) _⟩
  rw [Lb.esc, ← h1.out, ← h2.out, ← h3.out]; rfl

set_option maxHeartbeats 400000 in
theorem check_any (s : List UInt8) (w : World) (hs : s.length ≤ 1000000) :
    Calls Try.prog 56 #[S s] w fun e w' => e = .returned (.int .i64 (Lb.check s.length)) ∧ w = w' := by
  go_enter Try.func56, Try.ntmps56
  go_wp2
  all_goals go_ret
  all_goals refine ⟨ret_int ?_, rfl⟩
  · have h : s.isEmpty = true := by assumption
    simp at h; simp [h, Lb.check]
  · have h : s.isEmpty = false := by assumption
    have h2 : (63 : Int) < s.length := by assumption
    unfold Lb.check; rw [if_neg (by omega), if_pos (by omega)]
  · have h : s.isEmpty = false := by assumption
    have h2 : (s.length : Int) ≤ 63 := by assumption
    have : s ≠ [] := by simpa using h
    have : s.length ≠ 0 := by simpa using this
    unfold Lb.check; rw [if_neg (by omega), if_neg (by omega)]

theorem indexByte_marks (c : UInt8) : (0 ≤ Lib.indexByte Lb.marks c) ↔ c ∈ Lb.marks := by
  have h : ∀ n : Fin 256, decide (0 ≤ Lib.indexByte Lb.marks (UInt8.ofFin n)) = decide (UInt8.ofFin n ∈ Lb.marks) := by decide +kernel
  have := h c.toFin
  simpa using this

theorem idx_marks (c : UInt8) (w : World) :
    Calls Try.prog 86 #[S [46, 92, 34, 40, 41, 59, 64, 36], .int .u8 c.toNat] w fun e w' => ∃ n : Int, e = .returned (.int .i64 n) ∧ (0 ≤ n ↔ c ∈ Lb.marks) ∧ w = w' := by
  refine (Try.strings_IndexByte _ _ _).mono ?_
  rintro e w' ⟨rfl, rfl⟩
  refine ⟨_, rfl, ?_, rfl⟩
  rw [← indexByte_marks c]
  simp [Lb.marks]

def textI (B : Nat) (w : World) (l : List UInt8) (k : Nat) (W : World) : Prop := k ≤ l.length ∧ Bld B B (Lb.text (l.take k)) W ∧ Box (B + 1) 9 (S l) W ∧ Below B w W ∧ B + 2 ≤ W.heap.size

theorem textI_put {B w l L} (hL : B ≤ L) (k : Nat) (A : World) (r : Loop) (o : Obj) (h : textI B w l k A) (hr : A.heap[L]? = some (.loop r)) : textI B w l k (A.putObj L o) := by
  obtain ⟨h1, h2, h3, h4, h5⟩ := h
  exact ⟨h1, builderF_put h2 hr o, h3.put hr o, below_put h4 hL hr (by omega) o, by simpa using h5⟩

theorem textI_step {B : Nat} {w W w2 : World} {l t : List UInt8} {k : Nat} (h : k < l.length) (h2 : Bld B B (Lb.text (l.take k)) W) (h3 : Box (B + 1) 9 (S l) W) (h4 : Below B w W) (h5 : B + 2 ≤ W.heap.size)
    (ht : Lb.text (l.take (k + 1)) = Lb.text (l.take k) ++ t) (hb : Below B W w2) (ho : Lib.OthersKept 5 (some B) W w2) (hl : Bld B B (Lb.text (l.take k) ++ t) w2) :
    KeepsOthers W w2 ∧ sameCell (B + 1) W w2 ∧ textI B w l (k + 1) w2 := by
  have hx := h3.others ho (by omega) (by decide)
  exact ⟨keepsOthers_others hb.size ho (builderF_row h2), h3.same hx, h, by rw [ht]; exact hl, hx, h4.trans hb, by have := hb.size; omega⟩

set_option maxRecDepth 10000 in
set_option maxHeartbeats 1000000 in
theorem text_any (l : List UInt8) (w : World) (hl : l.length ≤ 1000000) :
    Calls Try.prog 54 #[S l] w fun e w' => e = .returned (S (Lb.text l)) ∧ Below w.heap.size w w' := by
  refine (callsIn_wide (n := 0)).1 ?_
  refine callsIn_of_wp_marks Try.func54 rfl trivial ?_ rfl
  simp only [Try.ntmps54, List.size_toArray, List.length_cons, List.length_nil, Nat.reduceAdd, Nat.reduceSub, Array.replicate_succ, Array.replicate_zero, List.push_toArray, List.append_toArray, List.nil_append, List.cons_append]
  gi_wp2_with (gi_at_call 84; refine (callsIn_wide.2 (octets_any l _)).mono ?_; rintro e w' ⟨rfl, rfl⟩)
  have hb0 := Bld_new w
  have hx0 := Box.new (w.alloc (.cells #[.pointer none, .slice none 0 0] 86)) 9 (S l)
  rw [World.size_alloc] at hx0
  obtain ⟨W0, hW0, hI0, hs0⟩ : ∃ W0, (w.alloc (.cells #[.pointer none, .slice none 0 0] 86)).alloc (.cells #[S l] 9) = W0 ∧ textI w.heap.size w l 0 W0 ∧ W0.heap.size = w.heap.size + 2 :=
    ⟨_, rfl, ⟨by omega, builderF_alloc hb0 _, hx0, ((Below.refl _ _).alloc (Nat.le_refl _) _).alloc (by simp) _, by simp⟩, by simp⟩
  rw [hW0]
  clear hW0 hb0 hx0
  refine rf_outer rfl (enters_of Try.func100 (by kernel_rfl) rfl) (octets1_iter (w.heap.size + 1) l hl)
    (fun A B h => by subst h; exact KeepsOthers.refl _) sameCell.trans (fun A o => sameCell.put (by omega) A o)
    (fun _ _ _ _ ⟨_, h, _⟩ => by subst h; rfl)
    (textI w.heap.size w l) (fun _ _ => False) (fun _ _ _ h e => by subst e; exact h) (fun _ _ _ h _ => h)
    (textI_put (by omega)) (fun _ _ _ _ h _ => h)
    (fun r => ?start) (fun r => ?pre) ?round ?done (fun _ _ h => h.elim)
  case start =>
    obtain ⟨h1, h2, h3, h4, h5⟩ := hI0
    exact ⟨h1, builderF_alloc (builderF_alloc h2 _) _, (h3.alloc _).alloc _, (h4.alloc (by omega) _).alloc (by simp; omega) _, by simp; omega⟩
  case pre => exact ((hI0.2.2.1.alloc _).alloc _).cell
  case round =>
    rintro n k k' v W hI ⟨h, rfl, rfl⟩
    gi_wp2
    refine rfNext_same (Eq.refl _) hI (textI_put (by omega)) ?_
    clear hI hI0
    rintro W r rfl hr ⟨h1, h2, h3, h4, h5⟩
    have hlen := Lb.text_len (l.take k)
    have hlen2 := Lb.textC_len l[k]
    have htk : (l.take k).length ≤ 1000000 := by simp; omega
    have HT := Lib.hid (Lb.text_take_succ l k h)
    have hc255 : ((l[k].toNat : Nat) : Int) ≤ 255 := by have := l[k].toNat_lt; omega
    by_cases ha : l[k].toNat ≤ 32 ∨ 127 ≤ l[k].toNat
    · have HC := Lib.hid (show Lb.textC l[k] = Lb.esc l[k] by simp [Lb.textC, ha])
      rw [HC.out] at hlen2
      have ha' : ((l[k].toNat : Nat) : Int) ≤ 32 ∨ 127 ≤ ((l[k].toNat : Nat) : Int) := by omega
      clear ha
      rcases ha' with ha | ha
      all_goals
        gi_wp2_with (first
          | (gi_at_call 85; refine (CallsIn.inRound _ (callsIn_wide.2 (escape_any l[k] _))).mono ?_; rintro e w1 ⟨rfl, hb1⟩)
          | (gi_at_call 53; refine (CallsIn.inRound _ (callsIn_wide.2 (wstring w.heap.size w.heap.size _ _ _ (builderF_below h2 hb1) (by omega) (by omega) (by have := hb1.size; omega)))).mono ?_; rintro e w2 ⟨rfl, h22, hb2, ho2⟩))
        have h6 := textI_step (w := w) h h2 h3 h4 h5 (by rw [HT.out, HC.out]) (hb1.mono (by omega) |>.trans hb2) ((others_below hb1).trans ho2) h22
        exact h6
    · have ha1 : 32 < ((l[k].toNat : Nat) : Int) := by omega
      have ha2 : ((l[k].toNat : Nat) : Int) < 127 := by omega
      by_cases hm : l[k] ∈ Lb.marks
      · have HC := Lib.hid (show Lb.textC l[k] = [92] ++ [l[k]] by simp [Lb.textC, ha, hm])
        clear ha
        gi_wp2_with (gi_at_call 86; refine (CallsIn.inRound _ (callsIn_wide.2 (idx_marks l[k] _))).mono ?_; rintro e w' ⟨n, rfl, hn, rfl⟩; replace hn := hn.2 hm)
        refine (CallsIn.inRound _ (callsIn_wide.2 (wbyte w.heap.size w.heap.size _ 92 92 _ rfl h2 (by omega) (by omega)))).mono ?_
        rintro e w1 ⟨rfl, h21, hb1, ho1⟩
        gi_wp2_with fail
        refine (CallsIn.inRound _ (callsIn_wide.2 (wbyte w.heap.size w.heap.size _ l[k] _ _ rfl h21 (by simp; omega) (by have := hb1.size; omega)))).mono ?_
        rintro e w2 ⟨rfl, h22, hb2, ho2⟩
        gi_wp2_with fail
        rw [List.append_assoc] at h22
        exact textI_step (w := w) h h2 h3 h4 h5 (by rw [HT.out, HC.out]) (hb1.trans hb2) (ho1.trans ho2) h22
      · have HC := Lib.hid (show Lb.textC l[k] = [l[k]] by simp [Lb.textC, ha, hm])
        clear ha
        gi_wp2_with (gi_at_call 86; refine (CallsIn.inRound _ (callsIn_wide.2 (idx_marks l[k] _))).mono ?_; rintro e w' ⟨n, rfl, hn, rfl⟩; replace hn := fun h => hm (hn.1 h); replace hn := Int.not_le.1 hn)
        refine (CallsIn.inRound _ (callsIn_wide.2 (wbyte w.heap.size w.heap.size _ l[k] _ _ rfl h2 (by omega) (by omega)))).mono ?_
        rintro e w2 ⟨rfl, h22, hb2, ho2⟩
        gi_wp2_with fail
        exact textI_step (w := w) h h2 h3 h4 h5 (by rw [HT.out, HC.out]) hb2 ho2 h22
  case done =>
    rintro k W rfl ⟨h1, h2, h3, h4, h5⟩ hK
    rw [List.take_length] at h2
    gi_wp2_with fail
    refine (callsIn_wide.2 (Try.Builder_String_any_k w.heap.size w.heap.size (Lb.text l) _ h2 (by omega))).mono ?_
    rintro e w1 ⟨rfl, h21, hb1, ho1⟩
    gi_wp2_with fail
    rw [hs0] at hK
    have hK1 := ho1 _ _ hK (fun e => by have := Option.some.inj e; omega) (fun _ _ e => by cases e)
    refine ⟨by simp, .inl ⟨_, _, rfl, run_takeDeferred hK1, ?_⟩⟩
    exact ⟨_, results_tmp rfl _ _ _, rfl, (h4.trans hb1).grown (grownBy_putObj' _ _ _) (by have := hb1.size; omega) (fun k e => by have := Option.some.inj e; omega)⟩
end Go.Proofs.Ytikibmeopndncaa
